/- The walks of this part: the model's run of each function yields what the plain function says. Printed by gen8.py. -/
import Derived.Test.YtbaiahglondepaaGreatDoorExt08b
import Derived.Test.YtbaiahglondepaaGreatDoorWalk08a1
import Derived.Test.YtbaiahglondepaaGreatDoorWalk08a2
import Derived.Test.YtbaiahglondepaaGreatDoorChecked
import Derived.Test.YtbaiahglondepaaGreatDoorShelf
set_option linter.unusedVariables false
namespace Go.Proofs.YtbaiahglondepaaGreatDoor
open Go.X

def pNumber : Rp Number := fun _ cs x => cs = [.bool x.negative, .string (bs x.whole), .string (bs x.fraction)] ∧ x.whole.length ≤ LIMS ∧ x.fraction.length ≤ LIMS
theorem mNumber : Mono pNumber := ⟨fun _ h => by
  obtain ⟨e, h1, h2⟩ := h
  exact ⟨e, h1, h2⟩, fun h => by
  obtain ⟨rfl, h1, h2⟩ := h
  exact ⟨rfl, rfl, rfl, trivial⟩⟩

theorem agg_70 : aggB Tryz.prog 70 3 = true := by kernel_rfl
theorem fo_70_1 : fieldOffB Tryz.prog 70 1 1 = true := by kernel_rfl
theorem fo_70_2 : fieldOffB Tryz.prog 70 2 2 = true := by kernel_rfl
theorem go_100 : goB Tryz.prog 100 = true := by kernel_rfl
theorem go_101 : goB Tryz.prog 101 = true := by kernel_rfl
theorem go_106 : goB Tryz.prog 106 = true := by kernel_rfl
theorem go_11 : goB Tryz.prog 11 = true := by kernel_rfl
theorem go_19 : goB Tryz.prog 19 = true := by kernel_rfl
theorem go_22 : goB Tryz.prog 22 = true := by kernel_rfl
theorem go_24 : goB Tryz.prog 24 = true := by kernel_rfl
theorem go_25 : goB Tryz.prog 25 = true := by kernel_rfl
theorem go_26 : goB Tryz.prog 26 = true := by kernel_rfl
theorem go_28 : goB Tryz.prog 28 = true := by kernel_rfl
theorem go_29 : goB Tryz.prog 29 = true := by kernel_rfl
theorem go_31 : goB Tryz.prog 31 = true := by kernel_rfl
theorem go_50 : goB Tryz.prog 50 = true := by kernel_rfl
theorem go_51 : goB Tryz.prog 51 = true := by kernel_rfl
theorem go_53 : goB Tryz.prog 53 = true := by kernel_rfl
theorem go_54 : goB Tryz.prog 54 = true := by kernel_rfl
theorem go_57 : goB Tryz.prog 57 = true := by kernel_rfl
theorem go_58 : goB Tryz.prog 58 = true := by kernel_rfl
theorem go_59 : goB Tryz.prog 59 = true := by kernel_rfl
theorem go_75 : goB Tryz.prog 75 = true := by kernel_rfl
theorem go_76 : goB Tryz.prog 76 = true := by kernel_rfl
theorem go_77 : goB Tryz.prog 77 = true := by kernel_rfl
theorem go_78 : goB Tryz.prog 78 = true := by kernel_rfl
theorem go_79 : goB Tryz.prog 79 = true := by kernel_rfl
theorem go_80 : goB Tryz.prog 80 = true := by kernel_rfl
theorem go_81 : goB Tryz.prog 81 = true := by kernel_rfl
theorem go_82 : goB Tryz.prog 82 = true := by kernel_rfl
set_option maxRecDepth 100000 in
theorem inf_70 : ∃ i, Tryz.prog.info? 70 = some i ∧ i.size = 3 := ⟨_, rfl, by kernel_rfl⟩
theorem one_4 : oneB Tryz.prog 4 = true := by kernel_rfl
theorem places_70 : placesB Tryz.prog 70 = some [(0, 1), (1, 1), (2, 1)] := by kernel_rfl
theorem zero_70 : zeroB Tryz.prog 70 = some [(Value.bool false), (Value.string (bs ([]))), (Value.string (bs ([])))] := by kernel_rfl

theorem strings_CutPrefix_w {u : World} {m0 : Mem} {S : Segs} {w : World} (N : Nat) (p0_0 : List UInt8) (lp0_0 : p0_0.length ≤ LIMS) (p1_1 : List UInt8) (lp1_1 : p1_1.length ≤ LIMS) {r : (List UInt8) × Bool} (hF : strings_CutPrefix N p0_0 p1_1 = some r) (hG : Glob u) (ok : Ok u m0 S w) :
    Calls Tryz.prog 75 [Value.string (bs p0_0), Value.string (bs p1_1)].toArray w fun e w' => (e = .returned (.tuple [(.string (bs r.1)), (.bool r.2)].toArray) ∧ Ok u m0 S w') ∧ r.1.length ≤ LIMS := lib_CutPrefix Tryz.lays103 p0_0 p1_1 hF lp0_0 ok

theorem strings_Cut_w {u : World} {m0 : Mem} {S : Segs} {w : World} (N : Nat) (p0_0 : List UInt8) (lp0_0 : p0_0.length ≤ LIMS) (p1_1 : List UInt8) (lp1_1 : p1_1.length ≤ LIMS) {r : (List UInt8) × (List UInt8) × Bool} (hF : strings_Cut N p0_0 p1_1 = some r) (hG : Glob u) (ok : Ok u m0 S w) :
    Calls Tryz.prog 76 [Value.string (bs p0_0), Value.string (bs p1_1)].toArray w fun e w' => (e = .returned (.tuple [(.string (bs r.1)), (.string (bs r.2.1)), (.bool r.2.2)].toArray) ∧ Ok u m0 S w') ∧ r.1.length ≤ LIMS ∧ r.2.1.length ≤ LIMS := by
  obtain ⟨mx, hmx⟩ := hG
  exact lib_Cut Tryz.lays145 hmx p0_0 p1_1 hF lp0_0 ok

theorem strings_Trim_w {u : World} {m0 : Mem} {S : Segs} {w : World} (N : Nat) (p0_0 : List UInt8) (lp0_0 : p0_0.length ≤ LIMS) (p1_1 : List UInt8) (lp1_1 : p1_1.length ≤ LIMS) {r : (List UInt8)} (hF : strings_Trim N p0_0 p1_1 = some r) (hG : Glob u) (ok : Ok u m0 S w) :
    Calls Tryz.prog 100 [Value.string (bs p0_0), Value.string (bs p1_1)].toArray w fun e w' => (e = .returned (.string (bs r)) ∧ Ok u m0 S w') ∧ r.length ≤ LIMS := lib_Trim Tryz.lays160 (by kernel_rfl) p0_0 p1_1 hF lp0_0 ok

def decimal_digits_R (u : World) (m0 : Mem) (S : Segs) (r : Bool) (a : Act) (w : World) : Prop :=
  Ok u m0 S w ∧ a.defers = [] ∧ RVs Tryz.prog a w [.t 2 (.bool r)]
set_option maxHeartbeats 4000000 in
set_option maxRecDepth 100000 in
theorem decimal_digits_w {u : World} {m0 : Mem} {S : Segs} {w : World} (N : Nat) (s_0 : List UInt8) (ls_0 : s_0.length ≤ LIMS) {r : Bool} (hF : decimal_digits N s_0 = some r) (hG : Glob u) (ok : Ok u m0 S w) :
    Calls Tryz.prog 77 [Value.string (bs s_0)].toArray w fun e w' => (e = .returned (.bool r) ∧ Ok u m0 S w') := by
  have hb0 := ok.base
  have le_m0 := Mem.le.refl m0
  unfold decimal_digits at hF
  have fin : ∀ a w, decimal_digits_R u m0 S r a w → bodyPost Tryz.prog Tryz.f77 (fun e w' => (e = .returned (.bool r) ∧ Ok u m0 S w')) .ret a w := by
    intro a w h
    obtain ⟨ok, hd, hrv⟩ := h
    exact c_ret2 [.t 2 (.bool r)] hd rfl hrv ⟨rfl, ok⟩
  refine enter Tryz.func77 rfl rfl rfl fun a E => ?_
  refine wp_seq ?_
  refine c_region ?_
  refine l_val E ok (y_assign rfl) rfl rfl fun a E => ?_
  refine wpList_nil ?_
  refine t_norm ?_
  refine wp_seq ?_
  refine c_region ?_
  refine l_val E ok (y_move rfl) rfl rfl fun a E => ?_
  obtain ⟨r1, e2, hF⟩ := bnd hF
  refine l_call E go_100 rfl (strings_Trim_w N s_0 ls_0 ([48, 49, 50, 51, 52, 53, 54, 55, 56, 57]) (show ([48, 49, 50, 51, 52, 53, 54, 55, 56, 57] : List UInt8).length ≤ LIMS by decide) e2 hG ok) rfl rfl ?_
  rintro _ w ⟨⟨rfl, ok⟩, l3⟩
  refine ⟨_, rfl, fun a E => ?_⟩
  refine l_val E ok (y_seql rfl rfl) rfl rfl fun a E => ?_
  refine l_val E ok (y_assign rfl) rfl rfl fun a E => ?_
  refine wpList_nil ?_
  refine t_norm ?_
  refine wp_ret ?_
  have hret : decimal_digits_R u m0 S (r1 == ([])) a w := ⟨ok, E.d, ⟨rv_t E rfl, trivial⟩⟩
  obtain rfl := Option.some.inj hF
  exact fin _ _ hret

def decimal_zero_R (u : World) (m0 : Mem) (S : Segs) (r : Bool) (a : Act) (w : World) : Prop :=
  Ok u m0 S w ∧ a.defers = [] ∧ RVs Tryz.prog a w [.t 2 (.bool r)]
set_option maxHeartbeats 4000000 in
set_option maxRecDepth 100000 in
theorem decimal_zero_w {u : World} {m0 : Mem} {S : Segs} {w : World} (N : Nat) (s_0 : List UInt8) (ls_0 : s_0.length ≤ LIMS) {r : Bool} (hF : decimal_zero N s_0 = some r) (hG : Glob u) (ok : Ok u m0 S w) :
    Calls Tryz.prog 101 [Value.string (bs s_0)].toArray w fun e w' => (e = .returned (.bool r) ∧ Ok u m0 S w') := by
  have hb0 := ok.base
  have le_m0 := Mem.le.refl m0
  unfold decimal_zero at hF
  have fin : ∀ a w, decimal_zero_R u m0 S r a w → bodyPost Tryz.prog Tryz.f101 (fun e w' => (e = .returned (.bool r) ∧ Ok u m0 S w')) .ret a w := by
    intro a w h
    obtain ⟨ok, hd, hrv⟩ := h
    exact c_ret2 [.t 2 (.bool r)] hd rfl hrv ⟨rfl, ok⟩
  refine enter Tryz.func101 rfl rfl rfl fun a E => ?_
  refine wp_seq ?_
  refine c_region ?_
  refine l_val E ok (y_assign rfl) rfl rfl fun a E => ?_
  refine wpList_nil ?_
  refine t_norm ?_
  refine wp_seq ?_
  refine c_region ?_
  refine l_val E ok (y_move rfl) rfl rfl fun a E => ?_
  obtain ⟨r1, e2, hF⟩ := bnd hF
  refine l_call E go_100 rfl (strings_Trim_w N s_0 ls_0 ([48]) (show ([48] : List UInt8).length ≤ LIMS by decide) e2 hG ok) rfl rfl ?_
  rintro _ w ⟨⟨rfl, ok⟩, l3⟩
  refine ⟨_, rfl, fun a E => ?_⟩
  refine l_val E ok (y_seql rfl rfl) rfl rfl fun a E => ?_
  refine l_val E ok (y_assign rfl) rfl rfl fun a E => ?_
  refine wpList_nil ?_
  refine t_norm ?_
  refine wp_ret ?_
  have hret : decimal_zero_R u m0 S (r1 == ([])) a w := ⟨ok, E.d, ⟨rv_t E rfl, trivial⟩⟩
  obtain rfl := Option.some.inj hF
  exact fin _ _ hret

def decimal_number_zero_R (u : World) (m0 : Mem) (S : Segs) (r : Bool) (a : Act) (w : World) : Prop :=
  Ok u m0 S w ∧ a.defers = [] ∧ RVs Tryz.prog a w [.t 2 (.bool r)]
set_option maxHeartbeats 4000000 in
set_option maxRecDepth 100000 in
theorem decimal_number_zero_w {u : World} {m0 : Mem} {S : Segs} {w : World} (N : Nat) (vx_0 : List Value) (x_0 : Number) (hx_0 : pNumber m0 vx_0 x_0) {r : Bool} (hF : decimal_number_zero N x_0 = some r) (hG : Glob u) (ok : Ok u m0 S w) :
    Calls Tryz.prog 78 [.agg vx_0.toArray].toArray w fun e w' => (e = .returned (.bool r) ∧ Ok u m0 S w') := by
  obtain ⟨rfl, l1, l2⟩ := hx_0
  have hb0 := ok.base
  have le_m0 := Mem.le.refl m0
  unfold decimal_number_zero at hF
  have fin : ∀ a w, decimal_number_zero_R u m0 S r a w → bodyPost Tryz.prog Tryz.f78 (fun e w' => (e = .returned (.bool r) ∧ Ok u m0 S w')) .ret a w := by
    intro a w h
    obtain ⟨ok, hd, hrv⟩ := h
    exact c_ret2 [.t 2 (.bool r)] hd rfl hrv ⟨rfl, ok⟩
  refine enter Tryz.func78 rfl rfl rfl fun a E => ?_
  refine wp_seq ?_
  refine c_region ?_
  refine l_box E ok rfl rfl rfl fun b3 a w E ok => ?_
  refine l_val E ok (y_assign rfl) rfl rfl fun a E => ?_
  refine wpList_nil ?_
  refine t_norm ?_
  refine wp_seq ?_
  refine c_region ?_
  refine l_val E ok (y_fieldAddr fo_70_1 rfl) rfl rfl fun a E => ?_
  refine l_val E ok (y_load one_9 rfl (Holds.own 0 rfl rfl)) rfl rfl fun a E => ?_
  obtain ⟨r4, e5, hF⟩ := bnd hF
  refine l_call E go_101 rfl (decimal_zero_w N x_0.whole l1 e5 hG ok) rfl rfl ?_
  rintro _ w ⟨rfl, ok⟩
  refine ⟨_, rfl, fun a E => ?_⟩
  refine l_val E ok (y_move rfl) rfl rfl fun a E => ?_
  refine bsplit r4 (fun hc6 => ?_) (fun hc6 => ?_)
  rotate_left
  · replace hF := cond_f hc6 hF
    replace E := E.upd 6 hc6 rfl
    refine l_skip E rfl rfl fun a E => ?_
    refine l_skip E rfl rfl fun a E => ?_
    refine l_skip E rfl rfl fun a E => ?_
    refine l_val E ok (y_pickF rfl rfl) rfl rfl fun a E => ?_
    refine l_val E ok (y_assign rfl) rfl rfl fun a E => ?_
    refine wpList_nil ?_
    refine t_norm ?_
    refine wp_ret ?_
    have hret : decimal_number_zero_R u m0 S false a w := ⟨ok.drop, E.d, ⟨rv_t E rfl, trivial⟩⟩
    obtain rfl := Option.some.inj hF
    exact fin _ _ hret
  replace hF := cond_t hc6 hF
  replace E := E.upd 6 hc6 rfl
  refine l_val E ok (y_fieldAddr fo_70_2 rfl) rfl rfl fun a E => ?_
  refine l_val E ok (y_load one_9 rfl (Holds.own 0 rfl rfl)) rfl rfl fun a E => ?_
  obtain ⟨r7, e8, hF⟩ := bnd hF
  refine l_call E go_101 rfl (decimal_zero_w N x_0.fraction l2 e8 hG ok) rfl rfl ?_
  rintro _ w ⟨rfl, ok⟩
  refine ⟨_, rfl, fun a E => ?_⟩
  refine l_val E ok (y_pickT rfl rfl) rfl rfl fun a E => ?_
  refine l_val E ok (y_assign rfl) rfl rfl fun a E => ?_
  refine wpList_nil ?_
  refine t_norm ?_
  refine wp_ret ?_
  have hret : decimal_number_zero_R u m0 S r7 a w := ⟨ok.drop, E.d, ⟨rv_t E rfl, trivial⟩⟩
  obtain rfl := Option.some.inj hF
  exact fin _ _ hret

def decimal_split_R (u : World) (m0 : Mem) (S : Segs) (r : Number × Bool) (a : Act) (w : World) : Prop :=
  ∃ m1 v0, m0.le m1 ∧ Ok u m1 S w ∧ a.defers = [] ∧ RVs Tryz.prog a w [.c 2 70 (.agg v0.toArray), .t 3 (.bool r.2)] ∧ pNumber m1 v0 r.1
set_option maxHeartbeats 4000000 in
set_option maxRecDepth 100000 in
theorem decimal_split_w {u : World} {m0 : Mem} {S : Segs} {w : World} (N : Nat) (s_0 : List UInt8) (ls_0 : s_0.length ≤ LIMS) {r : Number × Bool} (hF : decimal_split N s_0 = some r) (hG : Glob u) (ok : Ok u m0 S w) :
    Calls Tryz.prog 50 [Value.string (bs s_0)].toArray w fun e w' => ∃ m1 v0, e = .returned (.tuple [(.agg v0.toArray), (.bool r.2)].toArray) ∧ m0.le m1 ∧ Ok u m1 S w' ∧ pNumber m1 v0 r.1 := by
  have le_m0 := Mem.le.refl m0
  unfold decimal_split at hF
  have fin : ∀ a w, decimal_split_R u m0 S r a w → bodyPost Tryz.prog Tryz.f50 (fun e w' => ∃ m1 v0, e = .returned (.tuple [(.agg v0.toArray), (.bool r.2)].toArray) ∧ m0.le m1 ∧ Ok u m1 S w' ∧ pNumber m1 v0 r.1) .ret a w := by
    intro a w h
    obtain ⟨m1, v0, hle, ok, hd, hrv, h0⟩ := h
    exact c_ret2 [.c 2 70 (.agg v0.toArray), .t 3 (.bool r.2)] hd rfl hrv ⟨m1, v0, rfl, hle, ok, h0⟩
  refine enter Tryz.func50 rfl rfl rfl fun a E => ?_
  refine wp_seq ?_
  refine c_region ?_
  refine l_alloc E ok zero_70 rfl rfl fun b1 a w E ok => ?_
  refine l_val E ok (y_assign rfl) rfl rfl fun a E => ?_
  refine wpList_nil ?_
  refine t_norm ?_
  refine wp_seq ?_
  refine c_region ?_
  refine l_val E ok (y_move rfl) rfl rfl fun a E => ?_
  obtain ⟨r2, e3, hF⟩ := bnd hF
  refine l_call E go_75 rfl (strings_CutPrefix_w N s_0 ls_0 ([45]) (show ([45] : List UInt8).length ≤ LIMS by decide) e3 hG ok) rfl rfl ?_
  rintro _ w ⟨⟨rfl, ok⟩, l4⟩
  refine ⟨_, rfl, fun a E => ?_⟩
  refine l_val E ok (y_move rfl) rfl rfl fun a E => ?_
  refine l_val E ok (y_extract rfl rfl) rfl rfl fun a E => ?_
  refine l_val E ok (y_extract rfl rfl) rfl rfl fun a E => ?_
  refine l_val E ok (y_assign rfl) rfl rfl fun a E => ?_
  refine l_val E ok (y_assign rfl) rfl rfl fun a E => ?_
  refine wpList_nil ?_
  refine t_norm ?_
  refine wp_seq ?_
  refine c_region ?_
  refine l_val E ok (y_move rfl) rfl rfl fun a E => ?_
  obtain ⟨r5, e6, hF⟩ := bnd hF
  refine l_call E go_76 rfl (strings_Cut_w N r2.1 l4 ([46]) (show ([46] : List UInt8).length ≤ LIMS by decide) e6 hG ok) rfl rfl ?_
  rintro _ w ⟨⟨rfl, ok⟩, l7, l8⟩
  refine ⟨_, rfl, fun a E => ?_⟩
  refine l_val E ok (y_move rfl) rfl rfl fun a E => ?_
  refine l_val E ok (y_extract rfl rfl) rfl rfl fun a E => ?_
  refine l_val E ok (y_extract rfl rfl) rfl rfl fun a E => ?_
  refine l_val E ok (y_extract rfl rfl) rfl rfl fun a E => ?_
  refine l_val E ok (y_assign rfl) rfl rfl fun a E => ?_
  refine l_val E ok (y_assign rfl) rfl rfl fun a E => ?_
  refine l_val E ok (y_assign rfl) rfl rfl fun a E => ?_
  refine wpList_nil ?_
  refine t_norm ?_
  refine wp_seq ?_
  refine c_region ?_
  refine l_val E ok (y_move rfl) rfl rfl fun a E => ?_
  refine l_val E ok (y_move rfl) rfl rfl fun a E => ?_
  refine l_val E ok (y_move rfl) rfl rfl fun a E => ?_
  refine l_val E ok (y_build (ps := [(0, .tmp 21), (1, .tmp 22), (2, .tmp 23)]) (qs := [(0, [(Value.bool r2.2)]), (1, [(Value.string (bs r5.1))]), (2, [(Value.string (bs r5.2.1))])]) (cs := [(Value.bool r2.2), (Value.string (bs r5.1)), (Value.string (bs r5.2.1))]) zero_70 places_70 rfl ⟨rfl, rfl, rfl, ⟨rfl, rfl, rfl, ⟨rfl, rfl, rfl, trivial⟩⟩⟩ rfl) rfl rfl fun a E => ?_
  refine l_alloc E ok zero_70 rfl rfl fun b9 a w E ok => ?_
  refine l_storeB E ok 0 rfl rfl rfl inf_70 rfl rfl ⟨rfl, rfl, rfl, trivial⟩ rfl rfl fun w ok => ?_
  refine wpList_nil ?_
  refine t_norm ?_
  refine wp_seq ?_
  refine wp_block ?_
  refine wp_seq ?_
  refine c_region ?_
  refine l_val E ok (y_move rfl) rfl rfl fun a E => ?_
  refine l_val E ok (y_slen Tryz.underlying9 rfl) rfl rfl fun a E => ?_
  refine l_val E ok (y_lss rfl rfl) rfl rfl fun a E => ?_
  refine l_val E ok (y_move rfl) rfl rfl fun a E => ?_
  refine bsplit (decide ((r5.1.length : Int) < 1)) (fun hc10 => ?_) (fun hc10 => ?_)
  · replace hF := cond_t hc10 hF
    replace E := E.upd 29 hc10 rfl
    refine l_skip E rfl rfl fun a E => ?_
    refine l_skip E rfl rfl fun a E => ?_
    refine l_skip E rfl rfl fun a E => ?_
    refine l_val E ok (y_pickT rfl rfl) rfl rfl fun a E => ?_
    refine l_val E ok (y_move rfl) rfl rfl fun a E => ?_
    refine l_skip E rfl rfl fun a E => ?_
    refine l_skip E rfl rfl fun a E => ?_
    refine l_skip E rfl rfl fun a E => ?_
    refine l_val E ok (y_pickT rfl rfl) rfl rfl fun a E => ?_
    refine l_val E ok (y_move rfl) rfl rfl fun a E => ?_
    refine l_skip E rfl rfl fun a E => ?_
    refine l_skip E rfl rfl fun a E => ?_
    refine l_skip E rfl rfl fun a E => ?_
    refine l_skip E rfl rfl fun a E => ?_
    refine l_skip E rfl rfl fun a E => ?_
    refine l_skip E rfl rfl fun a E => ?_
    refine l_skip E rfl rfl fun a E => ?_
    refine l_skip E rfl rfl fun a E => ?_
    refine l_val E ok (y_pickT rfl rfl) rfl rfl fun a E => ?_
    refine l_val E ok (y_assign rfl) rfl rfl fun a E => ?_
    refine wpList_nil ?_
    refine t_norm ?_
    refine c_if E rfl (fun _ => ?_) (fun h => by cases h)
    refine wp_seq ?_
    refine c_region ?_
    refine l_val E ok (y_loadAgg (cs := [(Value.bool r2.2), (Value.string (bs r5.1)), (Value.string (bs r5.2.1))]) agg_70 rfl rfl (Holds.own 0 rfl rfl)) rfl rfl fun a E => ?_
    refine l_storeB E ok 1 rfl rfl rfl inf_70 rfl rfl ⟨rfl, rfl, rfl, trivial⟩ rfl rfl fun w ok => ?_
    refine l_val E ok (y_assign rfl) rfl rfl fun a E => ?_
    refine wpList_nil ?_
    refine t_norm ?_
    refine wp_ret ?_
    refine b_ret ?_
    refine t_ret ?_
    have hret : decimal_split_R u m0 S ((Number.mk r2.2 r5.1 r5.2.1), false) a w := ⟨m0, [(Value.bool r2.2), (Value.string (bs r5.1)), (Value.string (bs r5.2.1))], le_m0, ok.drop.drop, E.d, ⟨rv_c (cs := [(Value.bool r2.2), (Value.string (bs r5.1)), (Value.string (bs r5.2.1))]) E ok rfl agg_70 rfl (Holds.own 1 rfl rfl), rv_t E rfl, trivial⟩, ⟨rfl, l7, l8⟩⟩
    obtain rfl := Option.some.inj hF
    exact fin _ _ hret
  replace hF := cond_f hc10 hF
  replace E := E.upd 29 hc10 rfl
  refine l_val E ok (y_move rfl) rfl rfl fun a E => ?_
  refine l_val E ok (y_slen Tryz.underlying9 rfl) rfl rfl fun a E => ?_
  refine l_val E ok (y_gtr rfl rfl) rfl rfl fun a E => ?_
  refine l_val E ok (y_pickF rfl rfl) rfl rfl fun a E => ?_
  refine l_val E ok (y_move rfl) rfl rfl fun a E => ?_
  refine bsplit (decide ((r5.1.length : Int) > 15)) (fun hc11 => ?_) (fun hc11 => ?_)
  · replace hF := cond_t hc11 hF
    replace E := E.upd 34 hc11 rfl
    refine l_skip E rfl rfl fun a E => ?_
    refine l_skip E rfl rfl fun a E => ?_
    refine l_skip E rfl rfl fun a E => ?_
    refine l_val E ok (y_pickT rfl rfl) rfl rfl fun a E => ?_
    refine l_val E ok (y_move rfl) rfl rfl fun a E => ?_
    refine l_skip E rfl rfl fun a E => ?_
    refine l_skip E rfl rfl fun a E => ?_
    refine l_skip E rfl rfl fun a E => ?_
    refine l_skip E rfl rfl fun a E => ?_
    refine l_skip E rfl rfl fun a E => ?_
    refine l_skip E rfl rfl fun a E => ?_
    refine l_skip E rfl rfl fun a E => ?_
    refine l_skip E rfl rfl fun a E => ?_
    refine l_val E ok (y_pickT rfl rfl) rfl rfl fun a E => ?_
    refine l_val E ok (y_assign rfl) rfl rfl fun a E => ?_
    refine wpList_nil ?_
    refine t_norm ?_
    refine c_if E rfl (fun _ => ?_) (fun h => by cases h)
    refine wp_seq ?_
    refine c_region ?_
    refine l_val E ok (y_loadAgg (cs := [(Value.bool r2.2), (Value.string (bs r5.1)), (Value.string (bs r5.2.1))]) agg_70 rfl rfl (Holds.own 0 rfl rfl)) rfl rfl fun a E => ?_
    refine l_storeB E ok 1 rfl rfl rfl inf_70 rfl rfl ⟨rfl, rfl, rfl, trivial⟩ rfl rfl fun w ok => ?_
    refine l_val E ok (y_assign rfl) rfl rfl fun a E => ?_
    refine wpList_nil ?_
    refine t_norm ?_
    refine wp_ret ?_
    refine b_ret ?_
    refine t_ret ?_
    have hret : decimal_split_R u m0 S ((Number.mk r2.2 r5.1 r5.2.1), false) a w := ⟨m0, [(Value.bool r2.2), (Value.string (bs r5.1)), (Value.string (bs r5.2.1))], le_m0, ok.drop.drop, E.d, ⟨rv_c (cs := [(Value.bool r2.2), (Value.string (bs r5.1)), (Value.string (bs r5.2.1))]) E ok rfl agg_70 rfl (Holds.own 1 rfl rfl), rv_t E rfl, trivial⟩, ⟨rfl, l7, l8⟩⟩
    obtain rfl := Option.some.inj hF
    exact fin _ _ hret
  replace hF := cond_f hc11 hF
  replace E := E.upd 34 hc11 rfl
  refine l_val E ok (y_move rfl) rfl rfl fun a E => ?_
  obtain ⟨r12, e13, hF⟩ := bnd hF
  refine l_call E go_77 rfl (decimal_digits_w N r5.1 l7 e13 hG ok) rfl rfl ?_
  rintro _ w ⟨rfl, ok⟩
  refine ⟨_, rfl, fun a E => ?_⟩
  refine l_val E ok (y_not rfl) rfl rfl fun a E => ?_
  refine l_val E ok (y_pickF rfl rfl) rfl rfl fun a E => ?_
  refine l_val E ok (y_move rfl) rfl rfl fun a E => ?_
  refine bsplit (!r12) (fun hc14 => ?_) (fun hc14 => ?_)
  · replace hF := cond_t hc14 hF
    replace E := E.upd 39 hc14 rfl
    refine l_skip E rfl rfl fun a E => ?_
    refine l_skip E rfl rfl fun a E => ?_
    refine l_skip E rfl rfl fun a E => ?_
    refine l_skip E rfl rfl fun a E => ?_
    refine l_skip E rfl rfl fun a E => ?_
    refine l_skip E rfl rfl fun a E => ?_
    refine l_skip E rfl rfl fun a E => ?_
    refine l_skip E rfl rfl fun a E => ?_
    refine l_val E ok (y_pickT rfl rfl) rfl rfl fun a E => ?_
    refine l_val E ok (y_assign rfl) rfl rfl fun a E => ?_
    refine wpList_nil ?_
    refine t_norm ?_
    refine c_if E rfl (fun _ => ?_) (fun h => by cases h)
    refine wp_seq ?_
    refine c_region ?_
    refine l_val E ok (y_loadAgg (cs := [(Value.bool r2.2), (Value.string (bs r5.1)), (Value.string (bs r5.2.1))]) agg_70 rfl rfl (Holds.own 0 rfl rfl)) rfl rfl fun a E => ?_
    refine l_storeB E ok 1 rfl rfl rfl inf_70 rfl rfl ⟨rfl, rfl, rfl, trivial⟩ rfl rfl fun w ok => ?_
    refine l_val E ok (y_assign rfl) rfl rfl fun a E => ?_
    refine wpList_nil ?_
    refine t_norm ?_
    refine wp_ret ?_
    refine b_ret ?_
    refine t_ret ?_
    have hret : decimal_split_R u m0 S ((Number.mk r2.2 r5.1 r5.2.1), false) a w := ⟨m0, [(Value.bool r2.2), (Value.string (bs r5.1)), (Value.string (bs r5.2.1))], le_m0, ok.drop.drop, E.d, ⟨rv_c (cs := [(Value.bool r2.2), (Value.string (bs r5.1)), (Value.string (bs r5.2.1))]) E ok rfl agg_70 rfl (Holds.own 1 rfl rfl), rv_t E rfl, trivial⟩, ⟨rfl, l7, l8⟩⟩
    obtain rfl := Option.some.inj hF
    exact fin _ _ hret
  replace hF := cond_f hc14 hF
  replace E := E.upd 39 hc14 rfl
  refine l_val E ok (y_move rfl) rfl rfl fun a E => ?_
  refine l_val E ok (y_slen Tryz.underlying9 rfl) rfl rfl fun a E => ?_
  refine l_val E ok (y_gtr rfl rfl) rfl rfl fun a E => ?_
  refine l_val E ok (y_move rfl) rfl rfl fun a E => ?_
  refine bsplit (decide ((r5.1.length : Int) > 1)) (fun hc15 => ?_) (fun hc15 => ?_)
  rotate_left
  · as_aux_lemma =>
      replace hF := cond_f hc15 hF
      replace E := E.upd 43 hc15 rfl
      refine l_skip E rfl rfl fun a E => ?_
      refine l_skip E rfl rfl fun a E => ?_
      refine l_skip E rfl rfl fun a E => ?_
      refine l_val E ok (y_pickF rfl rfl) rfl rfl fun a E => ?_
      refine l_val E ok (y_pickF rfl rfl) rfl rfl fun a E => ?_
      refine l_val E ok (y_assign rfl) rfl rfl fun a E => ?_
      refine wpList_nil ?_
      refine t_norm ?_
      refine c_if E rfl (fun h => by cases h) (fun _ => ?_)
      refine wp_seq ?_
      refine c_region ?_
      refine l_val E ok (y_move rfl) rfl rfl fun a E => ?_
      refine l_val E ok (y_move rfl) rfl rfl fun a E => ?_
      refine bsplit r5.2.2 (fun hc45 => ?_) (fun hc45 => ?_)
      rotate_left
      · as_aux_lemma =>
          replace hF := cond_f hc45 hF
          replace E := E.upd 52 hc45 rfl
          refine l_skip E rfl rfl fun a E => ?_
          refine l_skip E rfl rfl fun a E => ?_
          refine l_skip E rfl rfl fun a E => ?_
          refine l_val E ok (y_pickF rfl rfl) rfl rfl fun a E => ?_
          refine l_val E ok (y_move rfl) rfl rfl fun a E => ?_
          refine l_val E ok (y_move rfl) rfl rfl fun a E => ?_
          refine l_val E ok (y_slen Tryz.underlying9 rfl) rfl rfl fun a E => ?_
          refine l_val E ok (y_gtr rfl rfl) rfl rfl fun a E => ?_
          refine l_val E ok (y_pickF rfl rfl) rfl rfl fun a E => ?_
          refine l_val E ok (y_move rfl) rfl rfl fun a E => ?_
          refine bsplit (decide ((r5.2.1.length : Int) > 6)) (fun hc59 => ?_) (fun hc59 => ?_)
          · replace hF := cond_t hc59 hF
            replace E := E.upd 62 hc59 rfl
            refine l_skip E rfl rfl fun a E => ?_
            refine l_skip E rfl rfl fun a E => ?_
            refine l_skip E rfl rfl fun a E => ?_
            refine l_val E ok (y_pickT rfl rfl) rfl rfl fun a E => ?_
            refine l_val E ok (y_assign rfl) rfl rfl fun a E => ?_
            refine wpList_nil ?_
            refine t_norm ?_
            refine c_if E rfl (fun _ => ?_) (fun h => by cases h)
            refine wp_seq ?_
            refine c_region ?_
            refine l_val E ok (y_loadAgg (cs := [(Value.bool r2.2), (Value.string (bs r5.1)), (Value.string (bs r5.2.1))]) agg_70 rfl rfl (Holds.own 0 rfl rfl)) rfl rfl fun a E => ?_
            refine l_storeB E ok 1 rfl rfl rfl inf_70 rfl rfl ⟨rfl, rfl, rfl, trivial⟩ rfl rfl fun w ok => ?_
            refine l_val E ok (y_assign rfl) rfl rfl fun a E => ?_
            refine wpList_nil ?_
            refine t_norm ?_
            refine wp_ret ?_
            refine b_ret ?_
            refine t_ret ?_
            have hret : decimal_split_R u m0 S ((Number.mk r2.2 r5.1 r5.2.1), false) a w := ⟨m0, [(Value.bool r2.2), (Value.string (bs r5.1)), (Value.string (bs r5.2.1))], le_m0, ok.drop.drop, E.d, ⟨rv_c (cs := [(Value.bool r2.2), (Value.string (bs r5.1)), (Value.string (bs r5.2.1))]) E ok rfl agg_70 rfl (Holds.own 1 rfl rfl), rv_t E rfl, trivial⟩, ⟨rfl, l7, l8⟩⟩
            obtain rfl := Option.some.inj hF
            exact fin _ _ hret
          replace hF := cond_f hc59 hF
          replace E := E.upd 62 hc59 rfl
          refine l_val E ok (y_move rfl) rfl rfl fun a E => ?_
          obtain ⟨r60, e61, hF⟩ := bnd hF
          refine l_call E go_77 rfl (decimal_digits_w N r5.2.1 l8 e61 hG ok) rfl rfl ?_
          rintro _ w ⟨rfl, ok⟩
          refine ⟨_, rfl, fun a E => ?_⟩
          refine l_val E ok (y_not rfl) rfl rfl fun a E => ?_
          refine l_val E ok (y_pickF rfl rfl) rfl rfl fun a E => ?_
          refine l_val E ok (y_assign rfl) rfl rfl fun a E => ?_
          refine wpList_nil ?_
          refine t_norm ?_
          refine c_if E rfl (fun hc62 => ?_) (fun hc62 => ?_)
          · replace hF := cond_t hc62 hF
            refine wp_seq ?_
            refine c_region ?_
            refine l_val E ok (y_loadAgg (cs := [(Value.bool r2.2), (Value.string (bs r5.1)), (Value.string (bs r5.2.1))]) agg_70 rfl rfl (Holds.own 0 rfl rfl)) rfl rfl fun a E => ?_
            refine l_storeB E ok 1 rfl rfl rfl inf_70 rfl rfl ⟨rfl, rfl, rfl, trivial⟩ rfl rfl fun w ok => ?_
            refine l_val E ok (y_assign rfl) rfl rfl fun a E => ?_
            refine wpList_nil ?_
            refine t_norm ?_
            refine wp_ret ?_
            refine b_ret ?_
            refine t_ret ?_
            have hret : decimal_split_R u m0 S ((Number.mk r2.2 r5.1 r5.2.1), false) a w := ⟨m0, [(Value.bool r2.2), (Value.string (bs r5.1)), (Value.string (bs r5.2.1))], le_m0, ok.drop.drop, E.d, ⟨rv_c (cs := [(Value.bool r2.2), (Value.string (bs r5.1)), (Value.string (bs r5.2.1))]) E ok rfl agg_70 rfl (Holds.own 1 rfl rfl), rv_t E rfl, trivial⟩, ⟨rfl, l7, l8⟩⟩
            obtain rfl := Option.some.inj hF
            exact fin _ _ hret
          replace hF := cond_f hc62 hF
          refine wp_skip ?_
          refine b_norm ?_
          refine t_norm ?_
          refine wp_seq ?_
          obtain ⟨o63, hJ, hF⟩ := bnd hF
          refine c_mono (Q' := fun e a w => e = .normal ∧ Ok u m0 ([(b9, Obj.cells [(Value.bool r2.2), (Value.string (bs r5.1)), (Value.string (bs r5.2.1))].toArray 70 (0, 0))] :: [(b1, Obj.cells [(Value.bool o63.2.negative), (Value.string (bs o63.2.whole)), (Value.string (bs o63.2.fraction))].toArray 70 (0, 0))] :: S) w ∧ Env 76 a [(2, (Value.pointer (some ⟨b1, 0, none⟩))), (3, (Value.bool o63.1))] ∧ o63.2.whole.length ≤ LIMS ∧ o63.2.fraction.length ≤ LIMS) ?_ ?_
          rotate_left
          · clear hJ
            intro e a w hO
            obtain ⟨rfl, ok, E, l69, l70⟩ := hO
            refine t_norm ?_
            refine wp_ret ?_
            have hret : decimal_split_R u m0 S (o63.2, o63.1) a w := ⟨m0, [(Value.bool o63.2.negative), (Value.string (bs o63.2.whole)), (Value.string (bs o63.2.fraction))], le_m0, ok.drop.drop, E.d, ⟨rv_c (cs := [(Value.bool o63.2.negative), (Value.string (bs o63.2.whole)), (Value.string (bs o63.2.fraction))]) E ok rfl agg_70 rfl (Holds.own 1 rfl rfl), rv_t E rfl, trivial⟩, ⟨rfl, l69, l70⟩⟩
            obtain rfl := Option.some.inj hF
            exact fin _ _ hret
          replace hF := hJ
          clear hJ
          refine bsplit (!r2.2) (fun hc66 => ?_) (fun hc66 => ?_)
          · replace hF := cond_t hc66 hF
            obtain rfl := Option.some.inj hF
            refine k_begin [0] (Cls u m0 ([(b9, Obj.cells [(Value.bool r2.2), (Value.string (bs r5.1)), (Value.string (bs r5.2.1))].toArray 70 (0, 0))] :: [(b1, Obj.cells [(Value.bool false), (Value.string (bs ([]))), (Value.string (bs ([])))].toArray 70 (0, 0))] :: [])) (Cls u m0 ([(b9, Obj.cells [(Value.bool r2.2), (Value.string (bs r5.1)), (Value.string (bs r5.2.1))].toArray 70 (0, 0))] :: [])) (by kernel_rfl) ?_
            intro w hw
            replace ok := okdrew ok hw
            clear hw
            refine k_next (cl1 ⟨m0, _, le_m0, ok, ⟨memAt 0 rfl, memAt 1 rfl, trivial⟩⟩ ⟨m0, _, le_m0, ok, ⟨memAt 0 rfl, trivial⟩⟩) fun hT => ?_
            refine k_takeN 0 E rfl (by kernel_rfl) nP hT (y_loadAgg (cs := [(Value.bool r2.2), (Value.string (bs r5.1)), (Value.string (bs r5.2.1))]) agg_70 rfl rfl (Holds.cown 0 rfl rfl)) rfl rfl fun a E => ?_
            refine k_take 1 E rfl (by kernel_rfl) nP hT (y_move rfl) rfl rfl fun a E => ?_
            refine k_take 2 E rfl (by kernel_rfl) nP hT (y_not rfl) rfl rfl fun a E => ?_
            refine k_take 3 E rfl (by kernel_rfl) nP hT (y_move rfl) rfl rfl fun a E => ?_
            replace E := E.upd 71 hc66 rfl
            refine k_skip 4 false E rfl (by kernel_rfl) nP hT rfl rfl fun a E => ?_
            refine k_skip 5 false E rfl (by kernel_rfl) nP hT rfl rfl fun a E => ?_
            refine k_skip 6 false E rfl (by kernel_rfl) nP hT rfl rfl fun a E => ?_
            refine k_take 7 E rfl (by kernel_rfl) nP hT (y_pickT rfl rfl) rfl rfl fun a E => ?_
            refine k_all [8] (by kernel_rfl) rfl (one_c ?_)
            · refine wpOp_of_list (o := _) rfl ?_
              refine l_storeB E ok 1 rfl rfl rfl inf_70 rfl rfl ⟨rfl, rfl, rfl, trivial⟩ rfl rfl fun w ok => ?_
              refine wpList_nil ?_
              refine t_norm ?_
              refine k_next (cl2 (by kernel_rfl) ⟨m0, _, le_m0, ok, ⟨memAt 0 rfl, trivial⟩⟩) fun hT => ?_
              refine k_take 9 E rfl (by kernel_rfl) nP hT (y_assign rfl) rfl rfl fun a E => ?_
              refine k_done (by kernel_rfl) ?_
              exact ⟨rfl, ⟨ok, E.keep [2, 3], l7, l8⟩⟩
          replace hF := cond_f hc66 hF
          obtain ⟨r67, e68, hF⟩ := bnd hF
          obtain rfl := Option.some.inj hF
          refine k_begin [0] (Cls u m0 ([(b9, Obj.cells [(Value.bool r2.2), (Value.string (bs r5.1)), (Value.string (bs r5.2.1))].toArray 70 (0, 0))] :: [(b1, Obj.cells [(Value.bool false), (Value.string (bs ([]))), (Value.string (bs ([])))].toArray 70 (0, 0))] :: [])) (Cls u m0 ([(b9, Obj.cells [(Value.bool r2.2), (Value.string (bs r5.1)), (Value.string (bs r5.2.1))].toArray 70 (0, 0))] :: [])) (by kernel_rfl) ?_
          intro w hw
          replace ok := okdrew ok hw
          clear hw
          refine k_next (cl1 ⟨m0, _, le_m0, ok, ⟨memAt 0 rfl, memAt 1 rfl, trivial⟩⟩ ⟨m0, _, le_m0, ok, ⟨memAt 0 rfl, trivial⟩⟩) fun hT => ?_
          refine k_takeN 0 E rfl (by kernel_rfl) nP hT (y_loadAgg (cs := [(Value.bool r2.2), (Value.string (bs r5.1)), (Value.string (bs r5.2.1))]) agg_70 rfl rfl (Holds.cown 0 rfl rfl)) rfl rfl fun a E => ?_
          refine k_take 1 E rfl (by kernel_rfl) nP hT (y_move rfl) rfl rfl fun a E => ?_
          refine k_take 2 E rfl (by kernel_rfl) nP hT (y_not rfl) rfl rfl fun a E => ?_
          refine k_take 3 E rfl (by kernel_rfl) nP hT (y_move rfl) rfl rfl fun a E => ?_
          replace E := E.upd 71 hc66 rfl
          refine k_take 4 E rfl (by kernel_rfl) nP hT (y_loadAgg (cs := [(Value.bool r2.2), (Value.string (bs r5.1)), (Value.string (bs r5.2.1))]) agg_70 rfl rfl (Holds.cown 0 rfl rfl)) rfl rfl fun a E => ?_
          refine k_all [5] (by kernel_rfl) rfl (one_c ?_)
          · refine wpOp_of_list (o := _) rfl ?_
            refine l_call E go_78 rfl (decimal_number_zero_w N _ (Number.mk r2.2 r5.1 r5.2.1) ⟨rfl, l7, l8⟩ e68 hG ok) rfl rfl ?_
            rintro _ w ⟨rfl, ok⟩
            refine ⟨_, rfl, fun a E => ?_⟩
            refine wpList_nil ?_
            refine t_norm ?_
            refine k_next (cl1 ⟨m0, _, le_m0, ok, ⟨memAt 0 rfl, memAt 1 rfl, trivial⟩⟩ ⟨m0, _, le_m0, ok, ⟨memAt 0 rfl, trivial⟩⟩) fun hT => ?_
            refine k_take 6 E rfl (by kernel_rfl) nP hT (y_not rfl) rfl rfl fun a E => ?_
            refine k_take 7 E rfl (by kernel_rfl) nP hT (y_pickF rfl rfl) rfl rfl fun a E => ?_
            refine k_all [8] (by kernel_rfl) rfl (one_c ?_)
            · refine wpOp_of_list (o := _) rfl ?_
              refine l_storeB E ok 1 rfl rfl rfl inf_70 rfl rfl ⟨rfl, rfl, rfl, trivial⟩ rfl rfl fun w ok => ?_
              refine wpList_nil ?_
              refine t_norm ?_
              refine k_next (cl2 (by kernel_rfl) ⟨m0, _, le_m0, ok, ⟨memAt 0 rfl, trivial⟩⟩) fun hT => ?_
              refine k_take 9 E rfl (by kernel_rfl) nP hT (y_assign rfl) rfl rfl fun a E => ?_
              refine k_done (by kernel_rfl) ?_
              exact ⟨rfl, ⟨ok, E.keep [2, 3], l7, l8⟩⟩
      replace hF := cond_t hc45 hF
      replace E := E.upd 52 hc45 rfl
      refine l_val E ok (y_move rfl) rfl rfl fun a E => ?_
      refine l_val E ok (y_slen Tryz.underlying9 rfl) rfl rfl fun a E => ?_
      refine l_val E ok (y_eql rfl rfl) rfl rfl fun a E => ?_
      refine l_val E ok (y_pickT rfl rfl) rfl rfl fun a E => ?_
      refine l_val E ok (y_move rfl) rfl rfl fun a E => ?_
      refine bsplit ((r5.2.1.length : Int) == 0) (fun hc46 => ?_) (fun hc46 => ?_)
      · replace hF := cond_t hc46 hF
        replace E := E.upd 57 hc46 rfl
        refine l_skip E rfl rfl fun a E => ?_
        refine l_skip E rfl rfl fun a E => ?_
        refine l_skip E rfl rfl fun a E => ?_
        refine l_val E ok (y_pickT rfl rfl) rfl rfl fun a E => ?_
        refine l_val E ok (y_move rfl) rfl rfl fun a E => ?_
        refine l_skip E rfl rfl fun a E => ?_
        refine l_skip E rfl rfl fun a E => ?_
        refine l_skip E rfl rfl fun a E => ?_
        refine l_val E ok (y_pickT rfl rfl) rfl rfl fun a E => ?_
        refine l_val E ok (y_assign rfl) rfl rfl fun a E => ?_
        refine wpList_nil ?_
        refine t_norm ?_
        refine c_if E rfl (fun _ => ?_) (fun h => by cases h)
        refine wp_seq ?_
        refine c_region ?_
        refine l_val E ok (y_loadAgg (cs := [(Value.bool r2.2), (Value.string (bs r5.1)), (Value.string (bs r5.2.1))]) agg_70 rfl rfl (Holds.own 0 rfl rfl)) rfl rfl fun a E => ?_
        refine l_storeB E ok 1 rfl rfl rfl inf_70 rfl rfl ⟨rfl, rfl, rfl, trivial⟩ rfl rfl fun w ok => ?_
        refine l_val E ok (y_assign rfl) rfl rfl fun a E => ?_
        refine wpList_nil ?_
        refine t_norm ?_
        refine wp_ret ?_
        refine b_ret ?_
        refine t_ret ?_
        have hret : decimal_split_R u m0 S ((Number.mk r2.2 r5.1 r5.2.1), false) a w := ⟨m0, [(Value.bool r2.2), (Value.string (bs r5.1)), (Value.string (bs r5.2.1))], le_m0, ok.drop.drop, E.d, ⟨rv_c (cs := [(Value.bool r2.2), (Value.string (bs r5.1)), (Value.string (bs r5.2.1))]) E ok rfl agg_70 rfl (Holds.own 1 rfl rfl), rv_t E rfl, trivial⟩, ⟨rfl, l7, l8⟩⟩
        obtain rfl := Option.some.inj hF
        exact fin _ _ hret
      replace hF := cond_f hc46 hF
      replace E := E.upd 57 hc46 rfl
      refine l_val E ok (y_move rfl) rfl rfl fun a E => ?_
      refine l_val E ok (y_slen Tryz.underlying9 rfl) rfl rfl fun a E => ?_
      refine l_val E ok (y_gtr rfl rfl) rfl rfl fun a E => ?_
      refine l_val E ok (y_pickF rfl rfl) rfl rfl fun a E => ?_
      refine l_val E ok (y_move rfl) rfl rfl fun a E => ?_
      refine bsplit (decide ((r5.2.1.length : Int) > 6)) (fun hc47 => ?_) (fun hc47 => ?_)
      · replace hF := cond_t hc47 hF
        replace E := E.upd 62 hc47 rfl
        refine l_skip E rfl rfl fun a E => ?_
        refine l_skip E rfl rfl fun a E => ?_
        refine l_skip E rfl rfl fun a E => ?_
        refine l_val E ok (y_pickT rfl rfl) rfl rfl fun a E => ?_
        refine l_val E ok (y_assign rfl) rfl rfl fun a E => ?_
        refine wpList_nil ?_
        refine t_norm ?_
        refine c_if E rfl (fun _ => ?_) (fun h => by cases h)
        refine wp_seq ?_
        refine c_region ?_
        refine l_val E ok (y_loadAgg (cs := [(Value.bool r2.2), (Value.string (bs r5.1)), (Value.string (bs r5.2.1))]) agg_70 rfl rfl (Holds.own 0 rfl rfl)) rfl rfl fun a E => ?_
        refine l_storeB E ok 1 rfl rfl rfl inf_70 rfl rfl ⟨rfl, rfl, rfl, trivial⟩ rfl rfl fun w ok => ?_
        refine l_val E ok (y_assign rfl) rfl rfl fun a E => ?_
        refine wpList_nil ?_
        refine t_norm ?_
        refine wp_ret ?_
        refine b_ret ?_
        refine t_ret ?_
        have hret : decimal_split_R u m0 S ((Number.mk r2.2 r5.1 r5.2.1), false) a w := ⟨m0, [(Value.bool r2.2), (Value.string (bs r5.1)), (Value.string (bs r5.2.1))], le_m0, ok.drop.drop, E.d, ⟨rv_c (cs := [(Value.bool r2.2), (Value.string (bs r5.1)), (Value.string (bs r5.2.1))]) E ok rfl agg_70 rfl (Holds.own 1 rfl rfl), rv_t E rfl, trivial⟩, ⟨rfl, l7, l8⟩⟩
        obtain rfl := Option.some.inj hF
        exact fin _ _ hret
      replace hF := cond_f hc47 hF
      replace E := E.upd 62 hc47 rfl
      refine l_val E ok (y_move rfl) rfl rfl fun a E => ?_
      obtain ⟨r48, e49, hF⟩ := bnd hF
      refine l_call E go_77 rfl (decimal_digits_w N r5.2.1 l8 e49 hG ok) rfl rfl ?_
      rintro _ w ⟨rfl, ok⟩
      refine ⟨_, rfl, fun a E => ?_⟩
      refine l_val E ok (y_not rfl) rfl rfl fun a E => ?_
      refine l_val E ok (y_pickF rfl rfl) rfl rfl fun a E => ?_
      refine l_val E ok (y_assign rfl) rfl rfl fun a E => ?_
      refine wpList_nil ?_
      refine t_norm ?_
      refine c_if E rfl (fun hc50 => ?_) (fun hc50 => ?_)
      · replace hF := cond_t hc50 hF
        refine wp_seq ?_
        refine c_region ?_
        refine l_val E ok (y_loadAgg (cs := [(Value.bool r2.2), (Value.string (bs r5.1)), (Value.string (bs r5.2.1))]) agg_70 rfl rfl (Holds.own 0 rfl rfl)) rfl rfl fun a E => ?_
        refine l_storeB E ok 1 rfl rfl rfl inf_70 rfl rfl ⟨rfl, rfl, rfl, trivial⟩ rfl rfl fun w ok => ?_
        refine l_val E ok (y_assign rfl) rfl rfl fun a E => ?_
        refine wpList_nil ?_
        refine t_norm ?_
        refine wp_ret ?_
        refine b_ret ?_
        refine t_ret ?_
        have hret : decimal_split_R u m0 S ((Number.mk r2.2 r5.1 r5.2.1), false) a w := ⟨m0, [(Value.bool r2.2), (Value.string (bs r5.1)), (Value.string (bs r5.2.1))], le_m0, ok.drop.drop, E.d, ⟨rv_c (cs := [(Value.bool r2.2), (Value.string (bs r5.1)), (Value.string (bs r5.2.1))]) E ok rfl agg_70 rfl (Holds.own 1 rfl rfl), rv_t E rfl, trivial⟩, ⟨rfl, l7, l8⟩⟩
        obtain rfl := Option.some.inj hF
        exact fin _ _ hret
      replace hF := cond_f hc50 hF
      refine wp_skip ?_
      refine b_norm ?_
      refine t_norm ?_
      refine wp_seq ?_
      obtain ⟨o51, hJ, hF⟩ := bnd hF
      refine c_mono (Q' := fun e a w => e = .normal ∧ Ok u m0 ([(b9, Obj.cells [(Value.bool r2.2), (Value.string (bs r5.1)), (Value.string (bs r5.2.1))].toArray 70 (0, 0))] :: [(b1, Obj.cells [(Value.bool o51.2.negative), (Value.string (bs o51.2.whole)), (Value.string (bs o51.2.fraction))].toArray 70 (0, 0))] :: S) w ∧ Env 76 a [(2, (Value.pointer (some ⟨b1, 0, none⟩))), (3, (Value.bool o51.1))] ∧ o51.2.whole.length ≤ LIMS ∧ o51.2.fraction.length ≤ LIMS) ?_ ?_
      rotate_left
      · clear hJ
        intro e a w hO
        obtain ⟨rfl, ok, E, l57, l58⟩ := hO
        refine t_norm ?_
        refine wp_ret ?_
        have hret : decimal_split_R u m0 S (o51.2, o51.1) a w := ⟨m0, [(Value.bool o51.2.negative), (Value.string (bs o51.2.whole)), (Value.string (bs o51.2.fraction))], le_m0, ok.drop.drop, E.d, ⟨rv_c (cs := [(Value.bool o51.2.negative), (Value.string (bs o51.2.whole)), (Value.string (bs o51.2.fraction))]) E ok rfl agg_70 rfl (Holds.own 1 rfl rfl), rv_t E rfl, trivial⟩, ⟨rfl, l57, l58⟩⟩
        obtain rfl := Option.some.inj hF
        exact fin _ _ hret
      replace hF := hJ
      clear hJ
      refine bsplit (!r2.2) (fun hc54 => ?_) (fun hc54 => ?_)
      · replace hF := cond_t hc54 hF
        obtain rfl := Option.some.inj hF
        refine k_begin [0] (Cls u m0 ([(b9, Obj.cells [(Value.bool r2.2), (Value.string (bs r5.1)), (Value.string (bs r5.2.1))].toArray 70 (0, 0))] :: [(b1, Obj.cells [(Value.bool false), (Value.string (bs ([]))), (Value.string (bs ([])))].toArray 70 (0, 0))] :: [])) (Cls u m0 ([(b9, Obj.cells [(Value.bool r2.2), (Value.string (bs r5.1)), (Value.string (bs r5.2.1))].toArray 70 (0, 0))] :: [])) (by kernel_rfl) ?_
        intro w hw
        replace ok := okdrew ok hw
        clear hw
        refine k_next (cl1 ⟨m0, _, le_m0, ok, ⟨memAt 0 rfl, memAt 1 rfl, trivial⟩⟩ ⟨m0, _, le_m0, ok, ⟨memAt 0 rfl, trivial⟩⟩) fun hT => ?_
        refine k_takeN 0 E rfl (by kernel_rfl) nP hT (y_loadAgg (cs := [(Value.bool r2.2), (Value.string (bs r5.1)), (Value.string (bs r5.2.1))]) agg_70 rfl rfl (Holds.cown 0 rfl rfl)) rfl rfl fun a E => ?_
        refine k_take 1 E rfl (by kernel_rfl) nP hT (y_move rfl) rfl rfl fun a E => ?_
        refine k_take 2 E rfl (by kernel_rfl) nP hT (y_not rfl) rfl rfl fun a E => ?_
        refine k_take 3 E rfl (by kernel_rfl) nP hT (y_move rfl) rfl rfl fun a E => ?_
        replace E := E.upd 71 hc54 rfl
        refine k_skip 4 false E rfl (by kernel_rfl) nP hT rfl rfl fun a E => ?_
        refine k_skip 5 false E rfl (by kernel_rfl) nP hT rfl rfl fun a E => ?_
        refine k_skip 6 false E rfl (by kernel_rfl) nP hT rfl rfl fun a E => ?_
        refine k_take 7 E rfl (by kernel_rfl) nP hT (y_pickT rfl rfl) rfl rfl fun a E => ?_
        refine k_all [8] (by kernel_rfl) rfl (one_c ?_)
        · refine wpOp_of_list (o := _) rfl ?_
          refine l_storeB E ok 1 rfl rfl rfl inf_70 rfl rfl ⟨rfl, rfl, rfl, trivial⟩ rfl rfl fun w ok => ?_
          refine wpList_nil ?_
          refine t_norm ?_
          refine k_next (cl2 (by kernel_rfl) ⟨m0, _, le_m0, ok, ⟨memAt 0 rfl, trivial⟩⟩) fun hT => ?_
          refine k_take 9 E rfl (by kernel_rfl) nP hT (y_assign rfl) rfl rfl fun a E => ?_
          refine k_done (by kernel_rfl) ?_
          exact ⟨rfl, ⟨ok, E.keep [2, 3], l7, l8⟩⟩
      replace hF := cond_f hc54 hF
      obtain ⟨r55, e56, hF⟩ := bnd hF
      obtain rfl := Option.some.inj hF
      refine k_begin [0] (Cls u m0 ([(b9, Obj.cells [(Value.bool r2.2), (Value.string (bs r5.1)), (Value.string (bs r5.2.1))].toArray 70 (0, 0))] :: [(b1, Obj.cells [(Value.bool false), (Value.string (bs ([]))), (Value.string (bs ([])))].toArray 70 (0, 0))] :: [])) (Cls u m0 ([(b9, Obj.cells [(Value.bool r2.2), (Value.string (bs r5.1)), (Value.string (bs r5.2.1))].toArray 70 (0, 0))] :: [])) (by kernel_rfl) ?_
      intro w hw
      replace ok := okdrew ok hw
      clear hw
      refine k_next (cl1 ⟨m0, _, le_m0, ok, ⟨memAt 0 rfl, memAt 1 rfl, trivial⟩⟩ ⟨m0, _, le_m0, ok, ⟨memAt 0 rfl, trivial⟩⟩) fun hT => ?_
      refine k_takeN 0 E rfl (by kernel_rfl) nP hT (y_loadAgg (cs := [(Value.bool r2.2), (Value.string (bs r5.1)), (Value.string (bs r5.2.1))]) agg_70 rfl rfl (Holds.cown 0 rfl rfl)) rfl rfl fun a E => ?_
      refine k_take 1 E rfl (by kernel_rfl) nP hT (y_move rfl) rfl rfl fun a E => ?_
      refine k_take 2 E rfl (by kernel_rfl) nP hT (y_not rfl) rfl rfl fun a E => ?_
      refine k_take 3 E rfl (by kernel_rfl) nP hT (y_move rfl) rfl rfl fun a E => ?_
      replace E := E.upd 71 hc54 rfl
      refine k_take 4 E rfl (by kernel_rfl) nP hT (y_loadAgg (cs := [(Value.bool r2.2), (Value.string (bs r5.1)), (Value.string (bs r5.2.1))]) agg_70 rfl rfl (Holds.cown 0 rfl rfl)) rfl rfl fun a E => ?_
      refine k_all [5] (by kernel_rfl) rfl (one_c ?_)
      · refine wpOp_of_list (o := _) rfl ?_
        refine l_call E go_78 rfl (decimal_number_zero_w N _ (Number.mk r2.2 r5.1 r5.2.1) ⟨rfl, l7, l8⟩ e56 hG ok) rfl rfl ?_
        rintro _ w ⟨rfl, ok⟩
        refine ⟨_, rfl, fun a E => ?_⟩
        refine wpList_nil ?_
        refine t_norm ?_
        refine k_next (cl1 ⟨m0, _, le_m0, ok, ⟨memAt 0 rfl, memAt 1 rfl, trivial⟩⟩ ⟨m0, _, le_m0, ok, ⟨memAt 0 rfl, trivial⟩⟩) fun hT => ?_
        refine k_take 6 E rfl (by kernel_rfl) nP hT (y_not rfl) rfl rfl fun a E => ?_
        refine k_take 7 E rfl (by kernel_rfl) nP hT (y_pickF rfl rfl) rfl rfl fun a E => ?_
        refine k_all [8] (by kernel_rfl) rfl (one_c ?_)
        · refine wpOp_of_list (o := _) rfl ?_
          refine l_storeB E ok 1 rfl rfl rfl inf_70 rfl rfl ⟨rfl, rfl, rfl, trivial⟩ rfl rfl fun w ok => ?_
          refine wpList_nil ?_
          refine t_norm ?_
          refine k_next (cl2 (by kernel_rfl) ⟨m0, _, le_m0, ok, ⟨memAt 0 rfl, trivial⟩⟩) fun hT => ?_
          refine k_take 9 E rfl (by kernel_rfl) nP hT (y_assign rfl) rfl rfl fun a E => ?_
          refine k_done (by kernel_rfl) ?_
          exact ⟨rfl, ⟨ok, E.keep [2, 3], l7, l8⟩⟩
  replace hF := cond_t hc15 hF
  replace E := E.upd 43 hc15 rfl
  refine l_val E ok (y_move rfl) rfl rfl fun a E => ?_
  obtain ⟨c16, e17, hF⟩ := bnd hF
  refine l_val E ok (y_index Tryz.underlying9 rfl rfl e17) rfl rfl fun a E => ?_
  refine l_val E ok (y_eql rfl rfl) rfl rfl fun a E => ?_
  refine l_val E ok (y_pickT rfl rfl) rfl rfl fun a E => ?_
  refine l_val E ok (y_pickF rfl rfl) rfl rfl fun a E => ?_
  refine l_val E ok (y_assign rfl) rfl rfl fun a E => ?_
  refine wpList_nil ?_
  refine t_norm ?_
  refine c_if E rfl (fun hc18 => ?_) (fun hc18 => ?_)
  · replace hF := cond_t hc18 hF
    refine wp_seq ?_
    refine c_region ?_
    refine l_val E ok (y_loadAgg (cs := [(Value.bool r2.2), (Value.string (bs r5.1)), (Value.string (bs r5.2.1))]) agg_70 rfl rfl (Holds.own 0 rfl rfl)) rfl rfl fun a E => ?_
    refine l_storeB E ok 1 rfl rfl rfl inf_70 rfl rfl ⟨rfl, rfl, rfl, trivial⟩ rfl rfl fun w ok => ?_
    refine l_val E ok (y_assign rfl) rfl rfl fun a E => ?_
    refine wpList_nil ?_
    refine t_norm ?_
    refine wp_ret ?_
    refine b_ret ?_
    refine t_ret ?_
    have hret : decimal_split_R u m0 S ((Number.mk r2.2 r5.1 r5.2.1), false) a w := ⟨m0, [(Value.bool r2.2), (Value.string (bs r5.1)), (Value.string (bs r5.2.1))], le_m0, ok.drop.drop, E.d, ⟨rv_c (cs := [(Value.bool r2.2), (Value.string (bs r5.1)), (Value.string (bs r5.2.1))]) E ok rfl agg_70 rfl (Holds.own 1 rfl rfl), rv_t E rfl, trivial⟩, ⟨rfl, l7, l8⟩⟩
    obtain rfl := Option.some.inj hF
    exact fin _ _ hret
  replace hF := cond_f hc18 hF
  refine wp_seq ?_
  refine c_region ?_
  refine l_val E ok (y_move rfl) rfl rfl fun a E => ?_
  refine l_val E ok (y_move rfl) rfl rfl fun a E => ?_
  refine bsplit r5.2.2 (fun hc19 => ?_) (fun hc19 => ?_)
  rotate_left
  · as_aux_lemma =>
      replace hF := cond_f hc19 hF
      replace E := E.upd 52 hc19 rfl
      refine l_skip E rfl rfl fun a E => ?_
      refine l_skip E rfl rfl fun a E => ?_
      refine l_skip E rfl rfl fun a E => ?_
      refine l_val E ok (y_pickF rfl rfl) rfl rfl fun a E => ?_
      refine l_val E ok (y_move rfl) rfl rfl fun a E => ?_
      refine l_val E ok (y_move rfl) rfl rfl fun a E => ?_
      refine l_val E ok (y_slen Tryz.underlying9 rfl) rfl rfl fun a E => ?_
      refine l_val E ok (y_gtr rfl rfl) rfl rfl fun a E => ?_
      refine l_val E ok (y_pickF rfl rfl) rfl rfl fun a E => ?_
      refine l_val E ok (y_move rfl) rfl rfl fun a E => ?_
      refine bsplit (decide ((r5.2.1.length : Int) > 6)) (fun hc33 => ?_) (fun hc33 => ?_)
      · replace hF := cond_t hc33 hF
        replace E := E.upd 62 hc33 rfl
        refine l_skip E rfl rfl fun a E => ?_
        refine l_skip E rfl rfl fun a E => ?_
        refine l_skip E rfl rfl fun a E => ?_
        refine l_val E ok (y_pickT rfl rfl) rfl rfl fun a E => ?_
        refine l_val E ok (y_assign rfl) rfl rfl fun a E => ?_
        refine wpList_nil ?_
        refine t_norm ?_
        refine c_if E rfl (fun _ => ?_) (fun h => by cases h)
        refine wp_seq ?_
        refine c_region ?_
        refine l_val E ok (y_loadAgg (cs := [(Value.bool r2.2), (Value.string (bs r5.1)), (Value.string (bs r5.2.1))]) agg_70 rfl rfl (Holds.own 0 rfl rfl)) rfl rfl fun a E => ?_
        refine l_storeB E ok 1 rfl rfl rfl inf_70 rfl rfl ⟨rfl, rfl, rfl, trivial⟩ rfl rfl fun w ok => ?_
        refine l_val E ok (y_assign rfl) rfl rfl fun a E => ?_
        refine wpList_nil ?_
        refine t_norm ?_
        refine wp_ret ?_
        refine b_ret ?_
        refine t_ret ?_
        have hret : decimal_split_R u m0 S ((Number.mk r2.2 r5.1 r5.2.1), false) a w := ⟨m0, [(Value.bool r2.2), (Value.string (bs r5.1)), (Value.string (bs r5.2.1))], le_m0, ok.drop.drop, E.d, ⟨rv_c (cs := [(Value.bool r2.2), (Value.string (bs r5.1)), (Value.string (bs r5.2.1))]) E ok rfl agg_70 rfl (Holds.own 1 rfl rfl), rv_t E rfl, trivial⟩, ⟨rfl, l7, l8⟩⟩
        obtain rfl := Option.some.inj hF
        exact fin _ _ hret
      replace hF := cond_f hc33 hF
      replace E := E.upd 62 hc33 rfl
      refine l_val E ok (y_move rfl) rfl rfl fun a E => ?_
      obtain ⟨r34, e35, hF⟩ := bnd hF
      refine l_call E go_77 rfl (decimal_digits_w N r5.2.1 l8 e35 hG ok) rfl rfl ?_
      rintro _ w ⟨rfl, ok⟩
      refine ⟨_, rfl, fun a E => ?_⟩
      refine l_val E ok (y_not rfl) rfl rfl fun a E => ?_
      refine l_val E ok (y_pickF rfl rfl) rfl rfl fun a E => ?_
      refine l_val E ok (y_assign rfl) rfl rfl fun a E => ?_
      refine wpList_nil ?_
      refine t_norm ?_
      refine c_if E rfl (fun hc36 => ?_) (fun hc36 => ?_)
      · replace hF := cond_t hc36 hF
        refine wp_seq ?_
        refine c_region ?_
        refine l_val E ok (y_loadAgg (cs := [(Value.bool r2.2), (Value.string (bs r5.1)), (Value.string (bs r5.2.1))]) agg_70 rfl rfl (Holds.own 0 rfl rfl)) rfl rfl fun a E => ?_
        refine l_storeB E ok 1 rfl rfl rfl inf_70 rfl rfl ⟨rfl, rfl, rfl, trivial⟩ rfl rfl fun w ok => ?_
        refine l_val E ok (y_assign rfl) rfl rfl fun a E => ?_
        refine wpList_nil ?_
        refine t_norm ?_
        refine wp_ret ?_
        refine b_ret ?_
        refine t_ret ?_
        have hret : decimal_split_R u m0 S ((Number.mk r2.2 r5.1 r5.2.1), false) a w := ⟨m0, [(Value.bool r2.2), (Value.string (bs r5.1)), (Value.string (bs r5.2.1))], le_m0, ok.drop.drop, E.d, ⟨rv_c (cs := [(Value.bool r2.2), (Value.string (bs r5.1)), (Value.string (bs r5.2.1))]) E ok rfl agg_70 rfl (Holds.own 1 rfl rfl), rv_t E rfl, trivial⟩, ⟨rfl, l7, l8⟩⟩
        obtain rfl := Option.some.inj hF
        exact fin _ _ hret
      replace hF := cond_f hc36 hF
      refine wp_skip ?_
      refine b_norm ?_
      refine t_norm ?_
      refine wp_seq ?_
      obtain ⟨o37, hJ, hF⟩ := bnd hF
      refine c_mono (Q' := fun e a w => e = .normal ∧ Ok u m0 ([(b9, Obj.cells [(Value.bool r2.2), (Value.string (bs r5.1)), (Value.string (bs r5.2.1))].toArray 70 (0, 0))] :: [(b1, Obj.cells [(Value.bool o37.2.negative), (Value.string (bs o37.2.whole)), (Value.string (bs o37.2.fraction))].toArray 70 (0, 0))] :: S) w ∧ Env 76 a [(2, (Value.pointer (some ⟨b1, 0, none⟩))), (3, (Value.bool o37.1))] ∧ o37.2.whole.length ≤ LIMS ∧ o37.2.fraction.length ≤ LIMS) ?_ ?_
      rotate_left
      · clear hJ
        intro e a w hO
        obtain ⟨rfl, ok, E, l43, l44⟩ := hO
        refine t_norm ?_
        refine wp_ret ?_
        have hret : decimal_split_R u m0 S (o37.2, o37.1) a w := ⟨m0, [(Value.bool o37.2.negative), (Value.string (bs o37.2.whole)), (Value.string (bs o37.2.fraction))], le_m0, ok.drop.drop, E.d, ⟨rv_c (cs := [(Value.bool o37.2.negative), (Value.string (bs o37.2.whole)), (Value.string (bs o37.2.fraction))]) E ok rfl agg_70 rfl (Holds.own 1 rfl rfl), rv_t E rfl, trivial⟩, ⟨rfl, l43, l44⟩⟩
        obtain rfl := Option.some.inj hF
        exact fin _ _ hret
      replace hF := hJ
      clear hJ
      refine bsplit (!r2.2) (fun hc40 => ?_) (fun hc40 => ?_)
      · replace hF := cond_t hc40 hF
        obtain rfl := Option.some.inj hF
        refine k_begin [0] (Cls u m0 ([(b9, Obj.cells [(Value.bool r2.2), (Value.string (bs r5.1)), (Value.string (bs r5.2.1))].toArray 70 (0, 0))] :: [(b1, Obj.cells [(Value.bool false), (Value.string (bs ([]))), (Value.string (bs ([])))].toArray 70 (0, 0))] :: [])) (Cls u m0 ([(b9, Obj.cells [(Value.bool r2.2), (Value.string (bs r5.1)), (Value.string (bs r5.2.1))].toArray 70 (0, 0))] :: [])) (by kernel_rfl) ?_
        intro w hw
        replace ok := okdrew ok hw
        clear hw
        refine k_next (cl1 ⟨m0, _, le_m0, ok, ⟨memAt 0 rfl, memAt 1 rfl, trivial⟩⟩ ⟨m0, _, le_m0, ok, ⟨memAt 0 rfl, trivial⟩⟩) fun hT => ?_
        refine k_takeN 0 E rfl (by kernel_rfl) nP hT (y_loadAgg (cs := [(Value.bool r2.2), (Value.string (bs r5.1)), (Value.string (bs r5.2.1))]) agg_70 rfl rfl (Holds.cown 0 rfl rfl)) rfl rfl fun a E => ?_
        refine k_take 1 E rfl (by kernel_rfl) nP hT (y_move rfl) rfl rfl fun a E => ?_
        refine k_take 2 E rfl (by kernel_rfl) nP hT (y_not rfl) rfl rfl fun a E => ?_
        refine k_take 3 E rfl (by kernel_rfl) nP hT (y_move rfl) rfl rfl fun a E => ?_
        replace E := E.upd 71 hc40 rfl
        refine k_skip 4 false E rfl (by kernel_rfl) nP hT rfl rfl fun a E => ?_
        refine k_skip 5 false E rfl (by kernel_rfl) nP hT rfl rfl fun a E => ?_
        refine k_skip 6 false E rfl (by kernel_rfl) nP hT rfl rfl fun a E => ?_
        refine k_take 7 E rfl (by kernel_rfl) nP hT (y_pickT rfl rfl) rfl rfl fun a E => ?_
        refine k_all [8] (by kernel_rfl) rfl (one_c ?_)
        · refine wpOp_of_list (o := _) rfl ?_
          refine l_storeB E ok 1 rfl rfl rfl inf_70 rfl rfl ⟨rfl, rfl, rfl, trivial⟩ rfl rfl fun w ok => ?_
          refine wpList_nil ?_
          refine t_norm ?_
          refine k_next (cl2 (by kernel_rfl) ⟨m0, _, le_m0, ok, ⟨memAt 0 rfl, trivial⟩⟩) fun hT => ?_
          refine k_take 9 E rfl (by kernel_rfl) nP hT (y_assign rfl) rfl rfl fun a E => ?_
          refine k_done (by kernel_rfl) ?_
          exact ⟨rfl, ⟨ok, E.keep [2, 3], l7, l8⟩⟩
      replace hF := cond_f hc40 hF
      obtain ⟨r41, e42, hF⟩ := bnd hF
      obtain rfl := Option.some.inj hF
      refine k_begin [0] (Cls u m0 ([(b9, Obj.cells [(Value.bool r2.2), (Value.string (bs r5.1)), (Value.string (bs r5.2.1))].toArray 70 (0, 0))] :: [(b1, Obj.cells [(Value.bool false), (Value.string (bs ([]))), (Value.string (bs ([])))].toArray 70 (0, 0))] :: [])) (Cls u m0 ([(b9, Obj.cells [(Value.bool r2.2), (Value.string (bs r5.1)), (Value.string (bs r5.2.1))].toArray 70 (0, 0))] :: [])) (by kernel_rfl) ?_
      intro w hw
      replace ok := okdrew ok hw
      clear hw
      refine k_next (cl1 ⟨m0, _, le_m0, ok, ⟨memAt 0 rfl, memAt 1 rfl, trivial⟩⟩ ⟨m0, _, le_m0, ok, ⟨memAt 0 rfl, trivial⟩⟩) fun hT => ?_
      refine k_takeN 0 E rfl (by kernel_rfl) nP hT (y_loadAgg (cs := [(Value.bool r2.2), (Value.string (bs r5.1)), (Value.string (bs r5.2.1))]) agg_70 rfl rfl (Holds.cown 0 rfl rfl)) rfl rfl fun a E => ?_
      refine k_take 1 E rfl (by kernel_rfl) nP hT (y_move rfl) rfl rfl fun a E => ?_
      refine k_take 2 E rfl (by kernel_rfl) nP hT (y_not rfl) rfl rfl fun a E => ?_
      refine k_take 3 E rfl (by kernel_rfl) nP hT (y_move rfl) rfl rfl fun a E => ?_
      replace E := E.upd 71 hc40 rfl
      refine k_take 4 E rfl (by kernel_rfl) nP hT (y_loadAgg (cs := [(Value.bool r2.2), (Value.string (bs r5.1)), (Value.string (bs r5.2.1))]) agg_70 rfl rfl (Holds.cown 0 rfl rfl)) rfl rfl fun a E => ?_
      refine k_all [5] (by kernel_rfl) rfl (one_c ?_)
      · refine wpOp_of_list (o := _) rfl ?_
        refine l_call E go_78 rfl (decimal_number_zero_w N _ (Number.mk r2.2 r5.1 r5.2.1) ⟨rfl, l7, l8⟩ e42 hG ok) rfl rfl ?_
        rintro _ w ⟨rfl, ok⟩
        refine ⟨_, rfl, fun a E => ?_⟩
        refine wpList_nil ?_
        refine t_norm ?_
        refine k_next (cl1 ⟨m0, _, le_m0, ok, ⟨memAt 0 rfl, memAt 1 rfl, trivial⟩⟩ ⟨m0, _, le_m0, ok, ⟨memAt 0 rfl, trivial⟩⟩) fun hT => ?_
        refine k_take 6 E rfl (by kernel_rfl) nP hT (y_not rfl) rfl rfl fun a E => ?_
        refine k_take 7 E rfl (by kernel_rfl) nP hT (y_pickF rfl rfl) rfl rfl fun a E => ?_
        refine k_all [8] (by kernel_rfl) rfl (one_c ?_)
        · refine wpOp_of_list (o := _) rfl ?_
          refine l_storeB E ok 1 rfl rfl rfl inf_70 rfl rfl ⟨rfl, rfl, rfl, trivial⟩ rfl rfl fun w ok => ?_
          refine wpList_nil ?_
          refine t_norm ?_
          refine k_next (cl2 (by kernel_rfl) ⟨m0, _, le_m0, ok, ⟨memAt 0 rfl, trivial⟩⟩) fun hT => ?_
          refine k_take 9 E rfl (by kernel_rfl) nP hT (y_assign rfl) rfl rfl fun a E => ?_
          refine k_done (by kernel_rfl) ?_
          exact ⟨rfl, ⟨ok, E.keep [2, 3], l7, l8⟩⟩
  replace hF := cond_t hc19 hF
  replace E := E.upd 52 hc19 rfl
  refine l_val E ok (y_move rfl) rfl rfl fun a E => ?_
  refine l_val E ok (y_slen Tryz.underlying9 rfl) rfl rfl fun a E => ?_
  refine l_val E ok (y_eql rfl rfl) rfl rfl fun a E => ?_
  refine l_val E ok (y_pickT rfl rfl) rfl rfl fun a E => ?_
  refine l_val E ok (y_move rfl) rfl rfl fun a E => ?_
  refine bsplit ((r5.2.1.length : Int) == 0) (fun hc20 => ?_) (fun hc20 => ?_)
  · replace hF := cond_t hc20 hF
    replace E := E.upd 57 hc20 rfl
    refine l_skip E rfl rfl fun a E => ?_
    refine l_skip E rfl rfl fun a E => ?_
    refine l_skip E rfl rfl fun a E => ?_
    refine l_val E ok (y_pickT rfl rfl) rfl rfl fun a E => ?_
    refine l_val E ok (y_move rfl) rfl rfl fun a E => ?_
    refine l_skip E rfl rfl fun a E => ?_
    refine l_skip E rfl rfl fun a E => ?_
    refine l_skip E rfl rfl fun a E => ?_
    refine l_val E ok (y_pickT rfl rfl) rfl rfl fun a E => ?_
    refine l_val E ok (y_assign rfl) rfl rfl fun a E => ?_
    refine wpList_nil ?_
    refine t_norm ?_
    refine c_if E rfl (fun _ => ?_) (fun h => by cases h)
    refine wp_seq ?_
    refine c_region ?_
    refine l_val E ok (y_loadAgg (cs := [(Value.bool r2.2), (Value.string (bs r5.1)), (Value.string (bs r5.2.1))]) agg_70 rfl rfl (Holds.own 0 rfl rfl)) rfl rfl fun a E => ?_
    refine l_storeB E ok 1 rfl rfl rfl inf_70 rfl rfl ⟨rfl, rfl, rfl, trivial⟩ rfl rfl fun w ok => ?_
    refine l_val E ok (y_assign rfl) rfl rfl fun a E => ?_
    refine wpList_nil ?_
    refine t_norm ?_
    refine wp_ret ?_
    refine b_ret ?_
    refine t_ret ?_
    have hret : decimal_split_R u m0 S ((Number.mk r2.2 r5.1 r5.2.1), false) a w := ⟨m0, [(Value.bool r2.2), (Value.string (bs r5.1)), (Value.string (bs r5.2.1))], le_m0, ok.drop.drop, E.d, ⟨rv_c (cs := [(Value.bool r2.2), (Value.string (bs r5.1)), (Value.string (bs r5.2.1))]) E ok rfl agg_70 rfl (Holds.own 1 rfl rfl), rv_t E rfl, trivial⟩, ⟨rfl, l7, l8⟩⟩
    obtain rfl := Option.some.inj hF
    exact fin _ _ hret
  replace hF := cond_f hc20 hF
  replace E := E.upd 57 hc20 rfl
  refine l_val E ok (y_move rfl) rfl rfl fun a E => ?_
  refine l_val E ok (y_slen Tryz.underlying9 rfl) rfl rfl fun a E => ?_
  refine l_val E ok (y_gtr rfl rfl) rfl rfl fun a E => ?_
  refine l_val E ok (y_pickF rfl rfl) rfl rfl fun a E => ?_
  refine l_val E ok (y_move rfl) rfl rfl fun a E => ?_
  refine bsplit (decide ((r5.2.1.length : Int) > 6)) (fun hc21 => ?_) (fun hc21 => ?_)
  · replace hF := cond_t hc21 hF
    replace E := E.upd 62 hc21 rfl
    refine l_skip E rfl rfl fun a E => ?_
    refine l_skip E rfl rfl fun a E => ?_
    refine l_skip E rfl rfl fun a E => ?_
    refine l_val E ok (y_pickT rfl rfl) rfl rfl fun a E => ?_
    refine l_val E ok (y_assign rfl) rfl rfl fun a E => ?_
    refine wpList_nil ?_
    refine t_norm ?_
    refine c_if E rfl (fun _ => ?_) (fun h => by cases h)
    refine wp_seq ?_
    refine c_region ?_
    refine l_val E ok (y_loadAgg (cs := [(Value.bool r2.2), (Value.string (bs r5.1)), (Value.string (bs r5.2.1))]) agg_70 rfl rfl (Holds.own 0 rfl rfl)) rfl rfl fun a E => ?_
    refine l_storeB E ok 1 rfl rfl rfl inf_70 rfl rfl ⟨rfl, rfl, rfl, trivial⟩ rfl rfl fun w ok => ?_
    refine l_val E ok (y_assign rfl) rfl rfl fun a E => ?_
    refine wpList_nil ?_
    refine t_norm ?_
    refine wp_ret ?_
    refine b_ret ?_
    refine t_ret ?_
    have hret : decimal_split_R u m0 S ((Number.mk r2.2 r5.1 r5.2.1), false) a w := ⟨m0, [(Value.bool r2.2), (Value.string (bs r5.1)), (Value.string (bs r5.2.1))], le_m0, ok.drop.drop, E.d, ⟨rv_c (cs := [(Value.bool r2.2), (Value.string (bs r5.1)), (Value.string (bs r5.2.1))]) E ok rfl agg_70 rfl (Holds.own 1 rfl rfl), rv_t E rfl, trivial⟩, ⟨rfl, l7, l8⟩⟩
    obtain rfl := Option.some.inj hF
    exact fin _ _ hret
  replace hF := cond_f hc21 hF
  replace E := E.upd 62 hc21 rfl
  refine l_val E ok (y_move rfl) rfl rfl fun a E => ?_
  obtain ⟨r22, e23, hF⟩ := bnd hF
  refine l_call E go_77 rfl (decimal_digits_w N r5.2.1 l8 e23 hG ok) rfl rfl ?_
  rintro _ w ⟨rfl, ok⟩
  refine ⟨_, rfl, fun a E => ?_⟩
  refine l_val E ok (y_not rfl) rfl rfl fun a E => ?_
  refine l_val E ok (y_pickF rfl rfl) rfl rfl fun a E => ?_
  refine l_val E ok (y_assign rfl) rfl rfl fun a E => ?_
  refine wpList_nil ?_
  refine t_norm ?_
  refine c_if E rfl (fun hc24 => ?_) (fun hc24 => ?_)
  · replace hF := cond_t hc24 hF
    refine wp_seq ?_
    refine c_region ?_
    refine l_val E ok (y_loadAgg (cs := [(Value.bool r2.2), (Value.string (bs r5.1)), (Value.string (bs r5.2.1))]) agg_70 rfl rfl (Holds.own 0 rfl rfl)) rfl rfl fun a E => ?_
    refine l_storeB E ok 1 rfl rfl rfl inf_70 rfl rfl ⟨rfl, rfl, rfl, trivial⟩ rfl rfl fun w ok => ?_
    refine l_val E ok (y_assign rfl) rfl rfl fun a E => ?_
    refine wpList_nil ?_
    refine t_norm ?_
    refine wp_ret ?_
    refine b_ret ?_
    refine t_ret ?_
    have hret : decimal_split_R u m0 S ((Number.mk r2.2 r5.1 r5.2.1), false) a w := ⟨m0, [(Value.bool r2.2), (Value.string (bs r5.1)), (Value.string (bs r5.2.1))], le_m0, ok.drop.drop, E.d, ⟨rv_c (cs := [(Value.bool r2.2), (Value.string (bs r5.1)), (Value.string (bs r5.2.1))]) E ok rfl agg_70 rfl (Holds.own 1 rfl rfl), rv_t E rfl, trivial⟩, ⟨rfl, l7, l8⟩⟩
    obtain rfl := Option.some.inj hF
    exact fin _ _ hret
  replace hF := cond_f hc24 hF
  refine wp_skip ?_
  refine b_norm ?_
  refine t_norm ?_
  refine wp_seq ?_
  obtain ⟨o25, hJ, hF⟩ := bnd hF
  refine c_mono (Q' := fun e a w => e = .normal ∧ Ok u m0 ([(b9, Obj.cells [(Value.bool r2.2), (Value.string (bs r5.1)), (Value.string (bs r5.2.1))].toArray 70 (0, 0))] :: [(b1, Obj.cells [(Value.bool o25.2.negative), (Value.string (bs o25.2.whole)), (Value.string (bs o25.2.fraction))].toArray 70 (0, 0))] :: S) w ∧ Env 76 a [(2, (Value.pointer (some ⟨b1, 0, none⟩))), (3, (Value.bool o25.1))] ∧ o25.2.whole.length ≤ LIMS ∧ o25.2.fraction.length ≤ LIMS) ?_ ?_
  rotate_left
  · clear hJ
    intro e a w hO
    obtain ⟨rfl, ok, E, l31, l32⟩ := hO
    refine t_norm ?_
    refine wp_ret ?_
    have hret : decimal_split_R u m0 S (o25.2, o25.1) a w := ⟨m0, [(Value.bool o25.2.negative), (Value.string (bs o25.2.whole)), (Value.string (bs o25.2.fraction))], le_m0, ok.drop.drop, E.d, ⟨rv_c (cs := [(Value.bool o25.2.negative), (Value.string (bs o25.2.whole)), (Value.string (bs o25.2.fraction))]) E ok rfl agg_70 rfl (Holds.own 1 rfl rfl), rv_t E rfl, trivial⟩, ⟨rfl, l31, l32⟩⟩
    obtain rfl := Option.some.inj hF
    exact fin _ _ hret
  replace hF := hJ
  clear hJ
  refine bsplit (!r2.2) (fun hc28 => ?_) (fun hc28 => ?_)
  · replace hF := cond_t hc28 hF
    obtain rfl := Option.some.inj hF
    refine k_begin [0] (Cls u m0 ([(b9, Obj.cells [(Value.bool r2.2), (Value.string (bs r5.1)), (Value.string (bs r5.2.1))].toArray 70 (0, 0))] :: [(b1, Obj.cells [(Value.bool false), (Value.string (bs ([]))), (Value.string (bs ([])))].toArray 70 (0, 0))] :: [])) (Cls u m0 ([(b9, Obj.cells [(Value.bool r2.2), (Value.string (bs r5.1)), (Value.string (bs r5.2.1))].toArray 70 (0, 0))] :: [])) (by kernel_rfl) ?_
    intro w hw
    replace ok := okdrew ok hw
    clear hw
    refine k_next (cl1 ⟨m0, _, le_m0, ok, ⟨memAt 0 rfl, memAt 1 rfl, trivial⟩⟩ ⟨m0, _, le_m0, ok, ⟨memAt 0 rfl, trivial⟩⟩) fun hT => ?_
    refine k_takeN 0 E rfl (by kernel_rfl) nP hT (y_loadAgg (cs := [(Value.bool r2.2), (Value.string (bs r5.1)), (Value.string (bs r5.2.1))]) agg_70 rfl rfl (Holds.cown 0 rfl rfl)) rfl rfl fun a E => ?_
    refine k_take 1 E rfl (by kernel_rfl) nP hT (y_move rfl) rfl rfl fun a E => ?_
    refine k_take 2 E rfl (by kernel_rfl) nP hT (y_not rfl) rfl rfl fun a E => ?_
    refine k_take 3 E rfl (by kernel_rfl) nP hT (y_move rfl) rfl rfl fun a E => ?_
    replace E := E.upd 71 hc28 rfl
    refine k_skip 4 false E rfl (by kernel_rfl) nP hT rfl rfl fun a E => ?_
    refine k_skip 5 false E rfl (by kernel_rfl) nP hT rfl rfl fun a E => ?_
    refine k_skip 6 false E rfl (by kernel_rfl) nP hT rfl rfl fun a E => ?_
    refine k_take 7 E rfl (by kernel_rfl) nP hT (y_pickT rfl rfl) rfl rfl fun a E => ?_
    refine k_all [8] (by kernel_rfl) rfl (one_c ?_)
    · refine wpOp_of_list (o := _) rfl ?_
      refine l_storeB E ok 1 rfl rfl rfl inf_70 rfl rfl ⟨rfl, rfl, rfl, trivial⟩ rfl rfl fun w ok => ?_
      refine wpList_nil ?_
      refine t_norm ?_
      refine k_next (cl2 (by kernel_rfl) ⟨m0, _, le_m0, ok, ⟨memAt 0 rfl, trivial⟩⟩) fun hT => ?_
      refine k_take 9 E rfl (by kernel_rfl) nP hT (y_assign rfl) rfl rfl fun a E => ?_
      refine k_done (by kernel_rfl) ?_
      exact ⟨rfl, ⟨ok, E.keep [2, 3], l7, l8⟩⟩
  replace hF := cond_f hc28 hF
  obtain ⟨r29, e30, hF⟩ := bnd hF
  obtain rfl := Option.some.inj hF
  refine k_begin [0] (Cls u m0 ([(b9, Obj.cells [(Value.bool r2.2), (Value.string (bs r5.1)), (Value.string (bs r5.2.1))].toArray 70 (0, 0))] :: [(b1, Obj.cells [(Value.bool false), (Value.string (bs ([]))), (Value.string (bs ([])))].toArray 70 (0, 0))] :: [])) (Cls u m0 ([(b9, Obj.cells [(Value.bool r2.2), (Value.string (bs r5.1)), (Value.string (bs r5.2.1))].toArray 70 (0, 0))] :: [])) (by kernel_rfl) ?_
  intro w hw
  replace ok := okdrew ok hw
  clear hw
  refine k_next (cl1 ⟨m0, _, le_m0, ok, ⟨memAt 0 rfl, memAt 1 rfl, trivial⟩⟩ ⟨m0, _, le_m0, ok, ⟨memAt 0 rfl, trivial⟩⟩) fun hT => ?_
  refine k_takeN 0 E rfl (by kernel_rfl) nP hT (y_loadAgg (cs := [(Value.bool r2.2), (Value.string (bs r5.1)), (Value.string (bs r5.2.1))]) agg_70 rfl rfl (Holds.cown 0 rfl rfl)) rfl rfl fun a E => ?_
  refine k_take 1 E rfl (by kernel_rfl) nP hT (y_move rfl) rfl rfl fun a E => ?_
  refine k_take 2 E rfl (by kernel_rfl) nP hT (y_not rfl) rfl rfl fun a E => ?_
  refine k_take 3 E rfl (by kernel_rfl) nP hT (y_move rfl) rfl rfl fun a E => ?_
  replace E := E.upd 71 hc28 rfl
  refine k_take 4 E rfl (by kernel_rfl) nP hT (y_loadAgg (cs := [(Value.bool r2.2), (Value.string (bs r5.1)), (Value.string (bs r5.2.1))]) agg_70 rfl rfl (Holds.cown 0 rfl rfl)) rfl rfl fun a E => ?_
  refine k_all [5] (by kernel_rfl) rfl (one_c ?_)
  · refine wpOp_of_list (o := _) rfl ?_
    refine l_call E go_78 rfl (decimal_number_zero_w N _ (Number.mk r2.2 r5.1 r5.2.1) ⟨rfl, l7, l8⟩ e30 hG ok) rfl rfl ?_
    rintro _ w ⟨rfl, ok⟩
    refine ⟨_, rfl, fun a E => ?_⟩
    refine wpList_nil ?_
    refine t_norm ?_
    refine k_next (cl1 ⟨m0, _, le_m0, ok, ⟨memAt 0 rfl, memAt 1 rfl, trivial⟩⟩ ⟨m0, _, le_m0, ok, ⟨memAt 0 rfl, trivial⟩⟩) fun hT => ?_
    refine k_take 6 E rfl (by kernel_rfl) nP hT (y_not rfl) rfl rfl fun a E => ?_
    refine k_take 7 E rfl (by kernel_rfl) nP hT (y_pickF rfl rfl) rfl rfl fun a E => ?_
    refine k_all [8] (by kernel_rfl) rfl (one_c ?_)
    · refine wpOp_of_list (o := _) rfl ?_
      refine l_storeB E ok 1 rfl rfl rfl inf_70 rfl rfl ⟨rfl, rfl, rfl, trivial⟩ rfl rfl fun w ok => ?_
      refine wpList_nil ?_
      refine t_norm ?_
      refine k_next (cl2 (by kernel_rfl) ⟨m0, _, le_m0, ok, ⟨memAt 0 rfl, trivial⟩⟩) fun hT => ?_
      refine k_take 9 E rfl (by kernel_rfl) nP hT (y_assign rfl) rfl rfl fun a E => ?_
      refine k_done (by kernel_rfl) ?_
      exact ⟨rfl, ⟨ok, E.keep [2, 3], l7, l8⟩⟩

def decimal_Valid_R (u : World) (m0 : Mem) (S : Segs) (r : Bool) (a : Act) (w : World) : Prop :=
  Ok u m0 S w ∧ a.defers = [] ∧ RVs Tryz.prog a w [.t 2 (.bool r)]
set_option maxHeartbeats 4000000 in
set_option maxRecDepth 100000 in
theorem decimal_Valid_w {u : World} {m0 : Mem} {S : Segs} {w : World} (N : Nat) (s_0 : List UInt8) (ls_0 : s_0.length ≤ LIMS) {r : Bool} (hF : decimal_Valid N s_0 = some r) (hG : Glob u) (ok : Ok u m0 S w) :
    Calls Tryz.prog 24 [Value.string (bs s_0)].toArray w fun e w' => (e = .returned (.bool r) ∧ Ok u m0 S w') := by
  have hb0 := ok.base
  have le_m0 := Mem.le.refl m0
  unfold decimal_Valid at hF
  have fin : ∀ a w, decimal_Valid_R u m0 S r a w → bodyPost Tryz.prog Tryz.f24 (fun e w' => (e = .returned (.bool r) ∧ Ok u m0 S w')) .ret a w := by
    intro a w h
    obtain ⟨ok, hd, hrv⟩ := h
    exact c_ret2 [.t 2 (.bool r)] hd rfl hrv ⟨rfl, ok⟩
  refine enter Tryz.func24 rfl rfl rfl fun a E => ?_
  refine wp_seq ?_
  refine c_region ?_
  refine l_val E ok (y_assign rfl) rfl rfl fun a E => ?_
  refine wpList_nil ?_
  refine t_norm ?_
  refine wp_seq ?_
  refine c_region ?_
  refine l_val E ok (y_move rfl) rfl rfl fun a E => ?_
  obtain ⟨r1, e2, hF⟩ := bnd hF
  refine l_call E go_50 rfl (decimal_split_w N s_0 ls_0 e2 hG ok) rfl rfl ?_
  rintro _ w ⟨m3, vs4, rfl, hle, ok, h5⟩
  have le_m0 := le_m0.trans hle
  obtain ⟨rfl, l6, l7⟩ := h5
  refine ⟨_, rfl, fun a E => ?_⟩
  refine l_val E ok (y_move rfl) rfl rfl fun a E => ?_
  refine l_val E ok (y_extract rfl rfl) rfl rfl fun a E => ?_
  refine l_val E ok (y_extract rfl rfl) rfl rfl fun a E => ?_
  refine l_alloc E ok zero_70 rfl rfl fun b8 a w E ok => ?_
  refine l_storeB E ok 0 rfl rfl rfl inf_70 rfl rfl ⟨rfl, rfl, rfl, trivial⟩ rfl rfl fun w ok => ?_
  refine l_val E ok (y_assign rfl) rfl rfl fun a E => ?_
  refine wpList_nil ?_
  refine t_norm ?_
  refine wp_seq ?_
  refine c_region ?_
  refine l_val E ok (y_move rfl) rfl rfl fun a E => ?_
  refine l_val E ok (y_assign rfl) rfl rfl fun a E => ?_
  refine wpList_nil ?_
  refine t_norm ?_
  refine wp_ret ?_
  have hret : decimal_Valid_R u m0 S r1.2 a w := ⟨(ok.drop).down hb0 le_m0, E.d, ⟨rv_t E rfl, trivial⟩⟩
  obtain rfl := Option.some.inj hF
  exact fin _ _ hret

theorem strings_TrimRight_w {u : World} {m0 : Mem} {S : Segs} {w : World} (N : Nat) (p0_0 : List UInt8) (lp0_0 : p0_0.length ≤ LIMS) (p1_1 : List UInt8) (lp1_1 : p1_1.length ≤ LIMS) {r : (List UInt8)} (hF : strings_TrimRight N p0_0 p1_1 = some r) (hG : Glob u) (ok : Ok u m0 S w) :
    Calls Tryz.prog 79 [Value.string (bs p0_0), Value.string (bs p1_1)].toArray w fun e w' => (e = .returned (.string (bs r)) ∧ Ok u m0 S w') ∧ r.length ≤ LIMS := lib_TrimRight Tryz.lays162 (by kernel_rfl) p0_0 p1_1 hF lp0_0 ok

def decimal_value_R (u : World) (m0 : Mem) (S : Segs) (r : Int) (a : Act) (w : World) : Prop :=
  Ok u m0 S w ∧ a.defers = [] ∧ RVs Tryz.prog a w [.t 2 (.int .i64 r)] ∧ InR .i64 r
set_option maxHeartbeats 4000000 in
set_option maxRecDepth 100000 in
theorem decimal_value_w {u : World} {m0 : Mem} {S : Segs} {w : World} (N : Nat) (s_0 : List UInt8) (ls_0 : s_0.length ≤ LIMS) {r : Int} (hF : decimal_value N s_0 = some r) (hG : Glob u) (ok : Ok u m0 S w) :
    Calls Tryz.prog 80 [Value.string (bs s_0)].toArray w fun e w' => (e = .returned (.int .i64 r) ∧ Ok u m0 S w') ∧ InR .i64 r := by
  have hb0 := ok.base
  have le_m0 := Mem.le.refl m0
  unfold decimal_value at hF
  have fin : ∀ a w, decimal_value_R u m0 S r a w → bodyPost Tryz.prog Tryz.f80 (fun e w' => (e = .returned (.int .i64 r) ∧ Ok u m0 S w') ∧ InR .i64 r) .ret a w := by
    intro a w h
    obtain ⟨ok, hd, hrv, h0⟩ := h
    exact c_ret2 [.t 2 (.int .i64 r)] hd rfl hrv ⟨⟨rfl, ok⟩, h0⟩
  refine enter Tryz.func80 rfl rfl rfl fun a E => ?_
  refine wp_seq ?_
  refine c_region ?_
  refine l_val E ok (y_assign rfl) rfl rfl fun a E => ?_
  refine wpList_nil ?_
  refine t_norm ?_
  refine wp_seq ?_
  refine c_region ?_
  refine l_val E ok (y_move rfl) rfl rfl fun a E => ?_
  obtain ⟨s1, e2, hF⟩ := bnd hF
  refine l_val E ok (y_cat rfl rfl e2) rfl rfl fun a E => ?_
  obtain ⟨r3, e4, hF⟩ := bnd hF
  refine l_call E go_93 rfl (strconv_Atoi_w N s1 (cat_len e2) e4 hG ok) rfl rfl ?_
  rintro _ w ⟨⟨rfl, ok⟩, r5⟩
  refine ⟨_, rfl, fun a E => ?_⟩
  refine l_val E ok (y_move rfl) rfl rfl fun a E => ?_
  refine l_val E ok (y_extract rfl rfl) rfl rfl fun a E => ?_
  refine l_val E ok (y_extract rfl rfl) rfl rfl fun a E => ?_
  refine l_val E ok (y_assign rfl) rfl rfl fun a E => ?_
  refine l_val E ok (y_assign rfl) rfl rfl fun a E => ?_
  refine wpList_nil ?_
  refine t_norm ?_
  refine wp_seq ?_
  refine c_region ?_
  refine l_val E ok (y_move rfl) rfl rfl fun a E => ?_
  refine l_val E ok (y_assign rfl) rfl rfl fun a E => ?_
  refine wpList_nil ?_
  refine t_norm ?_
  refine wp_ret ?_
  have hret : decimal_value_R u m0 S r3.1 a w := ⟨ok, E.d, ⟨rv_t E rfl, trivial⟩, r5⟩
  obtain rfl := Option.some.inj hF
  exact fin _ _ hret

def decimal_Operand_R (u : World) (m0 : Mem) (S : Segs) (r : Int × Int) (a : Act) (w : World) : Prop :=
  Ok u m0 S w ∧ a.defers = [] ∧ RVs Tryz.prog a w [.t 4 (.int .i64 r.1), .t 5 (.int .i64 r.2)] ∧ InR .i64 r.1 ∧ InR .i64 r.2
set_option maxHeartbeats 4000000 in
set_option maxRecDepth 100000 in
theorem decimal_Operand_w {u : World} {m0 : Mem} {S : Segs} {w : World} (N : Nat) (s_0 : List UInt8) (ls_0 : s_0.length ≤ LIMS) (operand_1 : Int) (roperand_1 : InR .i64 operand_1) {r : Int × Int} (hF : decimal_Operand N s_0 operand_1 = some r) (hG : Glob u) (ok : Ok u m0 S w) :
    Calls Tryz.prog 53 [Value.string (bs s_0), Value.int .i64 operand_1].toArray w fun e w' => (e = .returned (.tuple [(.int .i64 r.1), (.int .i64 r.2)].toArray) ∧ Ok u m0 S w') ∧ InR .i64 r.1 ∧ InR .i64 r.2 := by
  have hb0 := ok.base
  have le_m0 := Mem.le.refl m0
  unfold decimal_Operand at hF
  have fin : ∀ a w, decimal_Operand_R u m0 S r a w → bodyPost Tryz.prog Tryz.f53 (fun e w' => (e = .returned (.tuple [(.int .i64 r.1), (.int .i64 r.2)].toArray) ∧ Ok u m0 S w') ∧ InR .i64 r.1 ∧ InR .i64 r.2) .ret a w := by
    intro a w h
    obtain ⟨ok, hd, hrv, h0, h1⟩ := h
    exact c_ret2 [.t 4 (.int .i64 r.1), .t 5 (.int .i64 r.2)] hd rfl hrv ⟨⟨rfl, ok⟩, h0, h1⟩
  refine enter Tryz.func53 rfl rfl rfl fun a E => ?_
  refine wp_seq ?_
  refine c_region ?_
  refine l_val E ok (y_assign rfl) rfl rfl fun a E => ?_
  refine l_val E ok (y_assign rfl) rfl rfl fun a E => ?_
  refine wpList_nil ?_
  refine t_norm ?_
  refine wp_seq ?_
  refine c_region ?_
  refine l_val E ok (y_move rfl) rfl rfl fun a E => ?_
  obtain ⟨r1, e2, hF⟩ := bnd hF
  refine l_call E go_50 rfl (decimal_split_w N s_0 ls_0 e2 hG ok) rfl rfl ?_
  rintro _ w ⟨m3, vs4, rfl, hle, ok, h5⟩
  have le_m0 := le_m0.trans hle
  obtain ⟨rfl, l6, l7⟩ := h5
  refine ⟨_, rfl, fun a E => ?_⟩
  refine l_val E ok (y_move rfl) rfl rfl fun a E => ?_
  refine l_val E ok (y_extract rfl rfl) rfl rfl fun a E => ?_
  refine l_val E ok (y_extract rfl rfl) rfl rfl fun a E => ?_
  refine l_alloc E ok zero_70 rfl rfl fun b8 a w E ok => ?_
  refine l_storeB E ok 0 rfl rfl rfl inf_70 rfl rfl ⟨rfl, rfl, rfl, trivial⟩ rfl rfl fun w ok => ?_
  refine l_val E ok (y_assign rfl) rfl rfl fun a E => ?_
  refine wpList_nil ?_
  refine t_norm ?_
  refine wp_seq ?_
  refine wp_seq ?_
  refine c_region ?_
  refine l_val E ok (y_move rfl) rfl rfl fun a E => ?_
  refine l_val E ok (y_not rfl) rfl rfl fun a E => ?_
  refine wpList_nil ?_
  refine t_norm ?_
  refine c_if E rfl (fun hc9 => ?_) (fun hc9 => ?_)
  · replace hF := cond_t hc9 hF
    refine wp_seq ?_
    refine c_region ?_
    refine l_val E ok (y_assign rfl) rfl rfl fun a E => ?_
    refine l_val E ok (y_assign rfl) rfl rfl fun a E => ?_
    refine wpList_nil ?_
    refine t_norm ?_
    refine wp_ret ?_
    refine t_ret ?_
    have hret : decimal_Operand_R u m0 S (0, 1) a w := ⟨(ok.drop).down hb0 le_m0, E.d, ⟨rv_t E rfl, rv_t E rfl, trivial⟩, (show InR .i64 (0) by decide), (show InR .i64 (1) by decide)⟩
    obtain rfl := Option.some.inj hF
    exact fin _ _ hret
  replace hF := cond_f hc9 hF
  refine wp_skip ?_
  refine t_norm ?_
  refine wp_seq ?_
  refine c_region ?_
  refine l_val E ok (y_fieldAddr fo_70_2 rfl) rfl rfl fun a E => ?_
  refine l_val E ok (y_load one_9 rfl (Holds.own 0 rfl rfl)) rfl rfl fun a E => ?_
  obtain ⟨r10, e11, hF⟩ := bnd hF
  refine l_call E go_79 rfl (strings_TrimRight_w N r1.1.fraction l7 ([48]) (show ([48] : List UInt8).length ≤ LIMS by decide) e11 hG ok) rfl rfl ?_
  rintro _ w ⟨⟨rfl, ok⟩, l12⟩
  refine ⟨_, rfl, fun a E => ?_⟩
  refine l_val E ok (y_assign rfl) rfl rfl fun a E => ?_
  refine wpList_nil ?_
  refine t_norm ?_
  refine wp_seq ?_
  refine wp_seq ?_
  refine c_region ?_
  refine l_val E ok (y_move rfl) rfl rfl fun a E => ?_
  refine wpList_nil ?_
  refine t_norm ?_
  refine wp_block ?_
  refine wp_seq ?_
  refine c_region ?_
  refine l_val E ok (y_eql rfl rfl) rfl rfl fun a E => ?_
  refine l_val E ok (y_assign rfl) rfl rfl fun a E => ?_
  refine wpList_nil ?_
  refine t_norm ?_
  refine c_if E rfl (fun hc13 => ?_) (fun hc13 => ?_)
  · replace hF := cond_t hc13 hF
    refine wp_seq ?_
    refine wp_seq ?_
    refine c_region ?_
    refine l_val E ok (y_move rfl) rfl rfl fun a E => ?_
    refine l_val E ok (y_sneq rfl rfl) rfl rfl fun a E => ?_
    refine wpList_nil ?_
    refine t_norm ?_
    refine c_if E rfl (fun hc14 => ?_) (fun hc14 => ?_)
    · replace hF := cond_t hc14 hF
      refine wp_seq ?_
      refine c_region ?_
      refine l_val E ok (y_assign rfl) rfl rfl fun a E => ?_
      refine l_val E ok (y_assign rfl) rfl rfl fun a E => ?_
      refine wpList_nil ?_
      refine t_norm ?_
      refine wp_ret ?_
      refine t_ret ?_
      refine b_ret ?_
      refine t_ret ?_
      have hret : decimal_Operand_R u m0 S (0, 8) a w := ⟨(ok.drop).down hb0 le_m0, E.d, ⟨rv_t E rfl, rv_t E rfl, trivial⟩, (show InR .i64 (0) by decide), (show InR .i64 (8) by decide)⟩
      obtain rfl := Option.some.inj hF
      exact fin _ _ hret
    replace hF := cond_f hc14 hF
    refine wp_skip ?_
    refine t_norm ?_
    refine wp_seq ?_
    refine c_region ?_
    refine l_val E ok (y_fieldAddr fo_70_1 rfl) rfl rfl fun a E => ?_
    refine l_val E ok (y_load one_9 rfl (Holds.own 0 rfl rfl)) rfl rfl fun a E => ?_
    obtain ⟨r15, e16, hF⟩ := bnd hF
    refine l_call E go_80 rfl (decimal_value_w N r1.1.whole l6 e16 hG ok) rfl rfl ?_
    rintro _ w ⟨⟨rfl, ok⟩, r17⟩
    refine ⟨_, rfl, fun a E => ?_⟩
    refine l_val E ok (y_assign rfl) rfl rfl fun a E => ?_
    refine l_val E ok (y_assign rfl) rfl rfl fun a E => ?_
    refine wpList_nil ?_
    refine t_norm ?_
    refine wp_ret ?_
    refine b_ret ?_
    refine t_ret ?_
    have hret : decimal_Operand_R u m0 S (r15, 0) a w := ⟨(ok.drop).down hb0 le_m0, E.d, ⟨rv_t E rfl, rv_t E rfl, trivial⟩, r17, (show InR .i64 (0) by decide)⟩
    obtain rfl := Option.some.inj hF
    exact fin _ _ hret
  replace hF := cond_f hc13 hF
  refine wp_seq ?_
  refine c_region ?_
  refine l_val E ok (y_eql rfl rfl) rfl rfl fun a E => ?_
  refine l_val E ok (y_assign rfl) rfl rfl fun a E => ?_
  refine wpList_nil ?_
  refine t_norm ?_
  refine c_if E rfl (fun hc18 => ?_) (fun hc18 => ?_)
  · replace hF := cond_t hc18 hF
    refine wp_seq ?_
    refine c_region ?_
    refine l_val E ok (y_fieldAddr fo_70_1 rfl) rfl rfl fun a E => ?_
    refine l_val E ok (y_load one_9 rfl (Holds.own 0 rfl rfl)) rfl rfl fun a E => ?_
    obtain ⟨r19, e20, hF⟩ := bnd hF
    refine l_call E go_80 rfl (decimal_value_w N r1.1.whole l6 e20 hG ok) rfl rfl ?_
    rintro _ w ⟨⟨rfl, ok⟩, r21⟩
    refine ⟨_, rfl, fun a E => ?_⟩
    refine l_val E ok (y_assign rfl) rfl rfl fun a E => ?_
    refine l_val E ok (y_assign rfl) rfl rfl fun a E => ?_
    refine wpList_nil ?_
    refine t_norm ?_
    refine wp_ret ?_
    refine b_ret ?_
    refine t_ret ?_
    have hret : decimal_Operand_R u m0 S (r19, 0) a w := ⟨(ok.drop).down hb0 le_m0, E.d, ⟨rv_t E rfl, rv_t E rfl, trivial⟩, r21, (show InR .i64 (0) by decide)⟩
    obtain rfl := Option.some.inj hF
    exact fin _ _ hret
  replace hF := cond_f hc18 hF
  refine wp_seq ?_
  refine c_region ?_
  refine l_val E ok (y_eql rfl rfl) rfl rfl fun a E => ?_
  refine l_val E ok (y_assign rfl) rfl rfl fun a E => ?_
  refine wpList_nil ?_
  refine t_norm ?_
  refine c_if E rfl (fun hc22 => ?_) (fun hc22 => ?_)
  · replace hF := cond_t hc22 hF
    refine wp_seq ?_
    refine c_region ?_
    refine l_val E ok (y_fieldAddr fo_70_2 rfl) rfl rfl fun a E => ?_
    refine l_val E ok (y_load one_9 rfl (Holds.own 0 rfl rfl)) rfl rfl fun a E => ?_
    refine l_val E ok (y_slen Tryz.underlying9 rfl) rfl rfl fun a E => ?_
    refine l_val E ok (y_assign rfl) rfl rfl fun a E => ?_
    refine l_val E ok (y_assign rfl) rfl rfl fun a E => ?_
    refine wpList_nil ?_
    refine t_norm ?_
    refine wp_ret ?_
    refine b_ret ?_
    refine t_ret ?_
    have hret : decimal_Operand_R u m0 S ((r1.1.fraction.length : Int), 0) a w := ⟨(ok.drop).down hb0 le_m0, E.d, ⟨rv_t E rfl, rv_t E rfl, trivial⟩, (InR.len l7), (show InR .i64 (0) by decide)⟩
    obtain rfl := Option.some.inj hF
    exact fin _ _ hret
  replace hF := cond_f hc22 hF
  refine wp_seq ?_
  refine c_region ?_
  refine l_val E ok (y_eql rfl rfl) rfl rfl fun a E => ?_
  refine l_val E ok (y_assign rfl) rfl rfl fun a E => ?_
  refine wpList_nil ?_
  refine t_norm ?_
  refine c_if E rfl (fun hc23 => ?_) (fun hc23 => ?_)
  · replace hF := cond_t hc23 hF
    refine wp_seq ?_
    refine c_region ?_
    refine l_val E ok (y_move rfl) rfl rfl fun a E => ?_
    refine l_val E ok (y_slen Tryz.underlying9 rfl) rfl rfl fun a E => ?_
    refine l_val E ok (y_assign rfl) rfl rfl fun a E => ?_
    refine l_val E ok (y_assign rfl) rfl rfl fun a E => ?_
    refine wpList_nil ?_
    refine t_norm ?_
    refine wp_ret ?_
    refine b_ret ?_
    refine t_ret ?_
    have hret : decimal_Operand_R u m0 S ((r10.length : Int), 0) a w := ⟨(ok.drop).down hb0 le_m0, E.d, ⟨rv_t E rfl, rv_t E rfl, trivial⟩, (InR.len l12), (show InR .i64 (0) by decide)⟩
    obtain rfl := Option.some.inj hF
    exact fin _ _ hret
  replace hF := cond_f hc23 hF
  refine wp_seq ?_
  refine c_region ?_
  refine l_val E ok (y_eql rfl rfl) rfl rfl fun a E => ?_
  refine l_val E ok (y_assign rfl) rfl rfl fun a E => ?_
  refine wpList_nil ?_
  refine t_norm ?_
  refine c_if E rfl (fun hc24 => ?_) (fun hc24 => ?_)
  · replace hF := cond_t hc24 hF
    refine wp_seq ?_
    refine c_region ?_
    refine l_val E ok (y_fieldAddr fo_70_2 rfl) rfl rfl fun a E => ?_
    refine l_val E ok (y_load one_9 rfl (Holds.own 0 rfl rfl)) rfl rfl fun a E => ?_
    obtain ⟨r25, e26, hF⟩ := bnd hF
    refine l_call E go_80 rfl (decimal_value_w N r1.1.fraction l7 e26 hG ok) rfl rfl ?_
    rintro _ w ⟨⟨rfl, ok⟩, r27⟩
    refine ⟨_, rfl, fun a E => ?_⟩
    refine l_val E ok (y_assign rfl) rfl rfl fun a E => ?_
    refine l_val E ok (y_assign rfl) rfl rfl fun a E => ?_
    refine wpList_nil ?_
    refine t_norm ?_
    refine wp_ret ?_
    refine b_ret ?_
    refine t_ret ?_
    have hret : decimal_Operand_R u m0 S (r25, 0) a w := ⟨(ok.drop).down hb0 le_m0, E.d, ⟨rv_t E rfl, rv_t E rfl, trivial⟩, r27, (show InR .i64 (0) by decide)⟩
    obtain rfl := Option.some.inj hF
    exact fin _ _ hret
  replace hF := cond_f hc24 hF
  refine wp_seq ?_
  refine c_region ?_
  refine l_val E ok (y_eql rfl rfl) rfl rfl fun a E => ?_
  refine l_val E ok (y_assign rfl) rfl rfl fun a E => ?_
  refine wpList_nil ?_
  refine t_norm ?_
  refine c_if E rfl (fun hc28 => ?_) (fun hc28 => ?_)
  rotate_left
  · replace hF := cond_f hc28 hF
    refine wp_skip ?_
    refine b_norm ?_
    refine t_norm ?_
    refine wp_seq ?_
    refine c_region ?_
    refine l_val E ok (y_assign rfl) rfl rfl fun a E => ?_
    refine l_val E ok (y_assign rfl) rfl rfl fun a E => ?_
    refine wpList_nil ?_
    refine t_norm ?_
    refine wp_ret ?_
    have hret : decimal_Operand_R u m0 S (0, 1) a w := ⟨(ok.drop).down hb0 le_m0, E.d, ⟨rv_t E rfl, rv_t E rfl, trivial⟩, (show InR .i64 (0) by decide), (show InR .i64 (1) by decide)⟩
    obtain rfl := Option.some.inj hF
    exact fin _ _ hret
  replace hF := cond_t hc28 hF
  refine wp_seq ?_
  refine c_region ?_
  refine l_val E ok (y_move rfl) rfl rfl fun a E => ?_
  obtain ⟨r29, e30, hF⟩ := bnd hF
  refine l_call E go_80 rfl (decimal_value_w N r10 l12 e30 hG ok) rfl rfl ?_
  rintro _ w ⟨⟨rfl, ok⟩, r31⟩
  refine ⟨_, rfl, fun a E => ?_⟩
  refine l_val E ok (y_assign rfl) rfl rfl fun a E => ?_
  refine l_val E ok (y_assign rfl) rfl rfl fun a E => ?_
  refine wpList_nil ?_
  refine t_norm ?_
  refine wp_ret ?_
  refine b_ret ?_
  refine t_ret ?_
  have hret : decimal_Operand_R u m0 S (r29, 0) a w := ⟨(ok.drop).down hb0 le_m0, E.d, ⟨rv_t E rfl, rv_t E rfl, trivial⟩, r31, (show InR .i64 (0) by decide)⟩
  obtain rfl := Option.some.inj hF
  exact fin _ _ hret

def condition_in_1_R (u : World) (m0 : Mem) (S : Segs) (pb0 : Nat) (x0 : Int) (r : Bool) (a : Act) (w : World) : Prop :=
  Ok u m0 ([(pb0, Obj.cells [(Value.int .i64 x0)].toArray 3 (0, 0))] :: S) w ∧ a.defers = [] ∧ RVs Tryz.prog a w [.t 3 (.bool r)]
set_option maxHeartbeats 4000000 in
set_option maxRecDepth 100000 in
theorem condition_in_1_w {u : World} {m0 : Mem} {S : Segs} {w : World} (N : Nat) (vs_0 : List Value) (s_0 : Span) (hs_0 : pSpan m0 vs_0 s_0) {pb0 : Nat} (x0 : Int) (r3 : InR .i64 x0) {r : Bool} (hF : condition_in_1 N s_0 x0 = some r) (hG : Glob u) (ok : Ok u m0 ([(pb0, Obj.cells [(Value.int .i64 x0)].toArray 3 (0, 0))] :: S) w) :
    Calls Tryz.prog 82 [.agg vs_0.toArray, Value.pointer (some ⟨pb0, 0, none⟩)].toArray w fun e w' => (e = .returned (.bool r) ∧ Ok u m0 ([(pb0, Obj.cells [(Value.int .i64 x0)].toArray 3 (0, 0))] :: S) w') := by
  obtain ⟨rfl, r1, r2⟩ := hs_0
  have hb0 := ok.base
  have le_m0 := Mem.le.refl m0
  unfold condition_in_1 at hF
  have fin : ∀ a w, condition_in_1_R u m0 S pb0 x0 r a w → bodyPost Tryz.prog Tryz.f82 (fun e w' => (e = .returned (.bool r) ∧ Ok u m0 ([(pb0, Obj.cells [(Value.int .i64 x0)].toArray 3 (0, 0))] :: S) w')) .ret a w := by
    intro a w h
    obtain ⟨ok, hd, hrv⟩ := h
    exact c_ret2 [.t 3 (.bool r)] hd rfl hrv ⟨rfl, ok⟩
  refine enter Tryz.func82 rfl rfl rfl fun a E => ?_
  refine wp_seq ?_
  refine c_region ?_
  refine l_box E ok rfl rfl rfl fun b4 a w E ok => ?_
  refine l_val E ok (y_assign rfl) rfl rfl fun a E => ?_
  refine wpList_nil ?_
  refine t_norm ?_
  refine wp_seq ?_
  refine c_region ?_
  refine l_val E ok (y_load one_3 rfl (Holds.own 1 rfl rfl)) rfl rfl fun a E => ?_
  refine l_val E ok (y_fieldAddr fo_37_0 rfl) rfl rfl fun a E => ?_
  refine l_val E ok (y_load one_3 rfl (Holds.own 0 rfl rfl)) rfl rfl fun a E => ?_
  refine l_val E ok (y_geq rfl rfl) rfl rfl fun a E => ?_
  refine l_val E ok (y_move rfl) rfl rfl fun a E => ?_
  refine bsplit (decide (x0 ≥ s_0.From)) (fun hc5 => ?_) (fun hc5 => ?_)
  · replace hF := cond_t hc5 hF
    replace E := E.upd 8 hc5 rfl
    refine l_val E ok (y_load one_3 rfl (Holds.own 1 rfl rfl)) rfl rfl fun a E => ?_
    refine l_val E ok (y_fieldAddr fo_37_1 rfl) rfl rfl fun a E => ?_
    refine l_val E ok (y_load one_3 rfl (Holds.own 0 rfl rfl)) rfl rfl fun a E => ?_
    refine l_val E ok (y_leq rfl rfl) rfl rfl fun a E => ?_
    refine l_val E ok (y_pickT rfl rfl) rfl rfl fun a E => ?_
    refine l_val E ok (y_assign rfl) rfl rfl fun a E => ?_
    refine wpList_nil ?_
    refine t_norm ?_
    refine wp_ret ?_
    have hret : condition_in_1_R u m0 S pb0 x0 (decide (x0 ≤ s_0.To)) a w := ⟨ok.drop, E.d, ⟨rv_t E rfl, trivial⟩⟩
    obtain rfl := Option.some.inj hF
    exact fin _ _ hret
  replace hF := cond_f hc5 hF
  replace E := E.upd 8 hc5 rfl
  refine l_skip E rfl rfl fun a E => ?_
  refine l_skip E rfl rfl fun a E => ?_
  refine l_skip E rfl rfl fun a E => ?_
  refine l_skip E rfl rfl fun a E => ?_
  refine l_val E ok (y_pickF rfl rfl) rfl rfl fun a E => ?_
  refine l_val E ok (y_assign rfl) rfl rfl fun a E => ?_
  refine wpList_nil ?_
  refine t_norm ?_
  refine wp_ret ?_
  have hret : condition_in_1_R u m0 S pb0 x0 false a w := ⟨ok.drop, E.d, ⟨rv_t E rfl, trivial⟩⟩
  obtain rfl := Option.some.inj hF
  exact fin _ _ hret

def slices_IndexFunc_api_Span_api_Span__82_R (u : World) (m0 : Mem) (S : Segs) (pb0 : Nat) (x0 : Int) (r : Int) (a : Act) (w : World) : Prop :=
  Ok u m0 ([(pb0, Obj.cells [(Value.int .i64 x0)].toArray 3 (0, 0))] :: S) w ∧ a.defers = [] ∧ RVs Tryz.prog a w [.t 4 (.int .i64 r)] ∧ InR .i64 r
set_option maxHeartbeats 4000000 in
set_option maxRecDepth 100000 in
theorem slices_IndexFunc_api_Span_api_Span__82_w {u : World} {m0 : Mem} {S : Segs} {w : World} (N : Nat) (vs_0 : Value) (s_0 : List (Span)) (hs_0 : (pL 2 pSpan) m0 [vs_0] s_0) {pb0 : Nat} (x0 : Int) (r1 : InR .i64 x0) {r : Int} (hF : slices_IndexFunc_api_Span_api_Span__82 N s_0 x0 = some r) (hG : Glob u) (ok : Ok u m0 ([(pb0, Obj.cells [(Value.int .i64 x0)].toArray 3 (0, 0))] :: S) w) :
    Calls Tryz.prog 106 [vs_0, Value.func (.func 82) #[] #[.pointer (some ⟨pb0, 0, none⟩)]].toArray w fun e w' => (e = .returned (.int .i64 r) ∧ Ok u m0 ([(pb0, Obj.cells [(Value.int .i64 x0)].toArray 3 (0, 0))] :: S) w') ∧ InR .i64 r := by
  have hb0 := ok.base
  have le_m0 := Mem.le.refl m0
  unfold slices_IndexFunc_api_Span_api_Span__82 at hF
  have fin : ∀ a w, slices_IndexFunc_api_Span_api_Span__82_R u m0 S pb0 x0 r a w → bodyPost Tryz.prog Tryz.f106 (fun e w' => (e = .returned (.int .i64 r) ∧ Ok u m0 ([(pb0, Obj.cells [(Value.int .i64 x0)].toArray 3 (0, 0))] :: S) w') ∧ InR .i64 r) .ret a w := by
    intro a w h
    obtain ⟨ok, hd, hrv, h0⟩ := h
    exact c_ret2 [.t 4 (.int .i64 r)] hd rfl hrv ⟨⟨rfl, ok⟩, h0⟩
  refine enter Tryz.func106 rfl rfl rfl fun a E => ?_
  refine wp_seq ?_
  refine c_region ?_
  refine l_val E ok (y_assign rfl) rfl rfl fun a E => ?_
  refine wpList_nil ?_
  refine t_norm ?_
  refine wp_seq ?_
  refine wp_seq ?_
  refine c_region ?_
  refine l_val E ok (y_move rfl) rfl rfl fun a E => ?_
  refine l_val E ok (y_lenL sl_31 hs_0 rfl) rfl rfl fun a E => ?_
  refine l_val E ok (y_move rfl) rfl rfl fun a E => ?_
  refine wpList_nil ?_
  refine t_norm ?_
  refine wp_block ?_
  obtain ⟨o3, hL, hF⟩ := bnd hF
  refine c_loop _ (fun (s : Int) a w => Ok u m0 ([(pb0, Obj.cells [(Value.int .i64 x0)].toArray 3 (0, 0))] :: S) w ∧ Env 19 a [(0, vs_0), (1, (Value.func (.func 82) #[] #[.pointer (some ⟨pb0, 0, none⟩)])), (7, (Value.int .i64 (s_0.length : Int))), (8, (Value.int .i64 s))] ∧ InR .i64 s) (fun (b : (Unit ⊕ Int)) e a w => (Sum.elim (fun b22 => e = (.exit 0) ∧ Ok u m0 ([(pb0, Obj.cells [(Value.int .i64 x0)].toArray 3 (0, 0))] :: S) w ∧ Env 19 a []) (fun b23 => e = .ret ∧ slices_IndexFunc_api_Span_api_Span__82_R u m0 S pb0 x0 b23 a w)) b) ?_ ?_ N _ a w hL ⟨ok, E.keep [0, 1, 7, 8], (show InR .i64 (0) by decide)⟩
  rotate_left
  · intro e a w _ hO
    rcases o3 with o3 | o3
    rotate_left
    · replace hF := elim_r hF
      obtain ⟨rfl, hret⟩ := hO
      refine b_ret ?_
      refine t_ret ?_
      obtain rfl := Option.some.inj hF
      exact fin _ _ hret
    replace hF := elim_l hF
    obtain ⟨rfl, ok, E⟩ := hO
    refine b_hit ?_
    refine t_norm ?_
    refine wp_seq ?_
    refine c_region ?_
    refine l_val E ok (y_assign rfl) rfl rfl fun a E => ?_
    refine wpList_nil ?_
    refine t_norm ?_
    refine wp_ret ?_
    have hret : slices_IndexFunc_api_Span_api_Span__82_R u m0 S pb0 x0 (-1) a w := ⟨ok, E.d, ⟨rv_t E rfl, trivial⟩, (show InR .i64 (-1) by decide)⟩
    obtain rfl := Option.some.inj hF
    exact fin _ _ hret
  rintro x_5 a w r ⟨ok, E, r6⟩ hF
  replace hF : slices_IndexFunc_api_Span_api_Span__82_b1 N s_0 x0 x_5 = some r := hF
  unfold slices_IndexFunc_api_Span_api_Span__82_b1 at hF
  refine wp_seq ?_
  refine c_region ?_
  refine l_val E ok (y_lss rfl rfl) rfl rfl fun a E => ?_
  refine wpList_nil ?_
  refine t_norm ?_
  refine wp_seq ?_
  refine c_if E rfl (fun hc7 => ?_) (fun hc7 => ?_)
  rotate_left
  · replace hF := cond_f hc7 hF
    refine wp_exit ?_
    refine t_exit ?_
    obtain rfl := Option.some.inj hF
    exact step_o (by nofun) (sl ⟨rfl, ⟨ok, E.keep []⟩⟩)
  replace hF := cond_t hc7 hF
  refine wp_skip ?_
  refine t_norm ?_
  refine wp_seq ?_
  refine wp_block ?_
  refine wp_seq ?_
  refine c_region ?_
  refine l_val E ok (y_move rfl) rfl rfl fun a E => ?_
  refine l_val E ok (y_assign rfl) rfl rfl fun a E => ?_
  refine wpList_nil ?_
  refine t_norm ?_
  refine wp_seq ?_
  refine c_region ?_
  refine l_val E ok (y_move rfl) rfl rfl fun a E => ?_
  refine l_val E ok (y_move rfl) rfl rfl fun a E => ?_
  refine l_val E ok (y_move rfl) rfl rfl fun a E => ?_
  obtain ⟨x8, e9, hF⟩ := bnd hF
  obtain ⟨b10, o11, es12, hl13, rr14, at15, yy16⟩ := idxAt sl_31 hs_0 e9 (P := Tryz.prog) (X := .tmp 12) (I := .tmp 13) (kd := .i64) (ev_of E rfl) (ev_of E rfl)
  obtain ⟨rfl, r17, r18⟩ := rr14
  refine l_val E ok (yy16 _ _) rfl rfl fun a E => ?_
  refine l_val E ok (y_loadAgg (cs := [(Value.int .i64 x8.From), (Value.int .i64 x8.To)]) agg_37 rfl rfl (Holds.ro at15)) rfl rfl fun a E => ?_
  obtain ⟨r19, e20, hF⟩ := bnd hF
  refine l_callc E rfl go_82 rfl (condition_in_1_w N _ x8 ⟨rfl, r17, r18⟩ x0 r1 e20 hG ok) rfl rfl ?_
  rintro _ w ⟨rfl, ok⟩
  refine ⟨_, rfl, fun a E => ?_⟩
  refine wpList_nil ?_
  refine t_norm ?_
  refine c_if E rfl (fun hc21 => ?_) (fun hc21 => ?_)
  rotate_left
  · replace hF := cond_f hc21 hF
    refine wp_skip ?_
    refine b_norm ?_
    refine t_norm ?_
    refine c_region ?_
    refine l_val E ok (y_add rfl rfl (InR.inc r6 (pL_InR hs_0) hc7)) rfl rfl fun a E => ?_
    refine l_val E ok (y_move rfl) rfl rfl fun a E => ?_
    refine wpList_nil ?_
    obtain rfl := Option.some.inj hF
    exact step_n ⟨ok, E.keep [0, 1, 7, 8], (InR.inc r6 (pL_InR hs_0) hc7)⟩
  replace hF := cond_t hc21 hF
  refine wp_seq ?_
  refine c_region ?_
  refine l_val E ok (y_move rfl) rfl rfl fun a E => ?_
  refine l_val E ok (y_assign rfl) rfl rfl fun a E => ?_
  refine wpList_nil ?_
  refine t_norm ?_
  refine wp_ret ?_
  refine b_ret ?_
  refine t_ret ?_
  have hret : slices_IndexFunc_api_Span_api_Span__82_R u m0 S pb0 x0 x_5 a w := ⟨ok, E.d, ⟨rv_t E rfl, trivial⟩, r6⟩
  obtain rfl := Option.some.inj hF
  exact step_o (by nofun) (sr ⟨rfl, hret⟩)

def slices_ContainsFunc_api_Span_api_Span__82_R (u : World) (m0 : Mem) (S : Segs) (pb0 : Nat) (x0 : Int) (r : Bool) (a : Act) (w : World) : Prop :=
  Ok u m0 ([(pb0, Obj.cells [(Value.int .i64 x0)].toArray 3 (0, 0))] :: S) w ∧ a.defers = [] ∧ RVs Tryz.prog a w [.t 4 (.bool r)]
set_option maxHeartbeats 4000000 in
set_option maxRecDepth 100000 in
theorem slices_ContainsFunc_api_Span_api_Span__82_w {u : World} {m0 : Mem} {S : Segs} {w : World} (N : Nat) (vs_0 : Value) (s_0 : List (Span)) (hs_0 : (pL 2 pSpan) m0 [vs_0] s_0) {pb0 : Nat} (x0 : Int) (r1 : InR .i64 x0) {r : Bool} (hF : slices_ContainsFunc_api_Span_api_Span__82 N s_0 x0 = some r) (hG : Glob u) (ok : Ok u m0 ([(pb0, Obj.cells [(Value.int .i64 x0)].toArray 3 (0, 0))] :: S) w) :
    Calls Tryz.prog 81 [vs_0, Value.func (.func 82) #[] #[.pointer (some ⟨pb0, 0, none⟩)]].toArray w fun e w' => (e = .returned (.bool r) ∧ Ok u m0 ([(pb0, Obj.cells [(Value.int .i64 x0)].toArray 3 (0, 0))] :: S) w') := by
  have hb0 := ok.base
  have le_m0 := Mem.le.refl m0
  unfold slices_ContainsFunc_api_Span_api_Span__82 at hF
  have fin : ∀ a w, slices_ContainsFunc_api_Span_api_Span__82_R u m0 S pb0 x0 r a w → bodyPost Tryz.prog Tryz.f81 (fun e w' => (e = .returned (.bool r) ∧ Ok u m0 ([(pb0, Obj.cells [(Value.int .i64 x0)].toArray 3 (0, 0))] :: S) w')) .ret a w := by
    intro a w h
    obtain ⟨ok, hd, hrv⟩ := h
    exact c_ret2 [.t 4 (.bool r)] hd rfl hrv ⟨rfl, ok⟩
  refine enter Tryz.func81 rfl rfl rfl fun a E => ?_
  refine wp_seq ?_
  refine c_region ?_
  refine l_val E ok (y_assign rfl) rfl rfl fun a E => ?_
  refine wpList_nil ?_
  refine t_norm ?_
  refine wp_seq ?_
  refine c_region ?_
  refine l_val E ok (y_move rfl) rfl rfl fun a E => ?_
  refine l_val E ok (y_move rfl) rfl rfl fun a E => ?_
  obtain ⟨r2, e3, hF⟩ := bnd hF
  refine l_call E go_106 rfl (slices_IndexFunc_api_Span_api_Span__82_w N _ s_0 hs_0 x0 r1 e3 hG ok) rfl rfl ?_
  rintro _ w ⟨⟨rfl, ok⟩, r4⟩
  refine ⟨_, rfl, fun a E => ?_⟩
  refine l_val E ok (y_geq rfl rfl) rfl rfl fun a E => ?_
  refine l_val E ok (y_assign rfl) rfl rfl fun a E => ?_
  refine wpList_nil ?_
  refine t_norm ?_
  refine wp_ret ?_
  have hret : slices_ContainsFunc_api_Span_api_Span__82_R u m0 S pb0 x0 (decide (r2 ≥ 0)) a w := ⟨ok, E.d, ⟨rv_t E rfl, trivial⟩⟩
  obtain rfl := Option.some.inj hF
  exact fin _ _ hret

def condition_in_R (u : World) (m0 : Mem) (S : Segs) (r : Bool) (a : Act) (w : World) : Prop :=
  Ok u m0 S w ∧ a.defers = [] ∧ RVs Tryz.prog a w [.t 4 (.bool r)]
set_option maxHeartbeats 4000000 in
set_option maxRecDepth 100000 in
theorem condition_in_w {u : World} {m0 : Mem} {S : Segs} {w : World} (N : Nat) (vl_0 : Value) (l_0 : List (Span)) (hl_0 : (pL 2 pSpan) m0 [vl_0] l_0) (n_1 : Int) (rn_1 : InR .i64 n_1) {r : Bool} (hF : condition_in N l_0 n_1 = some r) (hG : Glob u) (ok : Ok u m0 S w) :
    Calls Tryz.prog 54 [vl_0, Value.int .i64 n_1].toArray w fun e w' => (e = .returned (.bool r) ∧ Ok u m0 S w') := by
  have hb0 := ok.base
  have le_m0 := Mem.le.refl m0
  unfold condition_in at hF
  have fin : ∀ a w, condition_in_R u m0 S r a w → bodyPost Tryz.prog Tryz.f54 (fun e w' => (e = .returned (.bool r) ∧ Ok u m0 S w')) .ret a w := by
    intro a w h
    obtain ⟨ok, hd, hrv⟩ := h
    exact c_ret2 [.t 4 (.bool r)] hd rfl hrv ⟨rfl, ok⟩
  refine enter Tryz.func54 rfl rfl rfl fun a E => ?_
  refine wp_seq ?_
  refine c_region ?_
  refine l_box E ok rfl rfl rfl fun b1 a w E ok => ?_
  refine l_val E ok (y_assign rfl) rfl rfl fun a E => ?_
  refine wpList_nil ?_
  refine t_norm ?_
  refine wp_seq ?_
  refine c_region ?_
  refine l_val E ok (y_move rfl) rfl rfl fun a E => ?_
  refine l_val E ok (y_makeFunc (caps := [.tmp 3]) rfl) rfl rfl fun a E => ?_
  obtain ⟨r2, e3, hF⟩ := bnd hF
  refine l_call E go_81 rfl (slices_ContainsFunc_api_Span_api_Span__82_w N _ l_0 hl_0 n_1 rn_1 e3 hG ok) rfl rfl ?_
  rintro _ w ⟨rfl, ok⟩
  refine ⟨_, rfl, fun a E => ?_⟩
  refine l_val E ok (y_assign rfl) rfl rfl fun a E => ?_
  refine wpList_nil ?_
  refine t_norm ?_
  refine wp_ret ?_
  have hret : condition_in_R u m0 S r2 a w := ⟨ok.drop, E.d, ⟨rv_t E rfl, trivial⟩⟩
  obtain rfl := Option.some.inj hF
  exact fin _ _ hret

def condition_holds_R (u : World) (m0 : Mem) (S : Segs) (r : Bool) (a : Act) (w : World) : Prop :=
  Ok u m0 S w ∧ a.defers = [] ∧ RVs Tryz.prog a w [.t 4 (.bool r)]
set_option maxHeartbeats 4000000 in
set_option maxRecDepth 100000 in
theorem condition_holds_w {u : World} {m0 : Mem} {S : Segs} {w : World} (N : Nat) (vr_0 : List Value) (r_0 : Relation) (hr_0 : pRelation m0 vr_0 r_0) (number_1 : List UInt8) (lnumber_1 : number_1.length ≤ LIMS) {r : Bool} (hF : condition_holds N r_0 number_1 = some r) (hG : Glob u) (ok : Ok u m0 S w) :
    Calls Tryz.prog 29 [.agg vr_0.toArray, Value.string (bs number_1)].toArray w fun e w' => (e = .returned (.bool r) ∧ Ok u m0 S w') := by
  obtain ⟨c3, rfl, r1, r2, h4⟩ := hr_0
  have hb0 := ok.base
  have le_m0 := Mem.le.refl m0
  unfold condition_holds at hF
  have fin : ∀ a w, condition_holds_R u m0 S r a w → bodyPost Tryz.prog Tryz.f29 (fun e w' => (e = .returned (.bool r) ∧ Ok u m0 S w')) .ret a w := by
    intro a w h
    obtain ⟨ok, hd, hrv⟩ := h
    exact c_ret2 [.t 4 (.bool r)] hd rfl hrv ⟨rfl, ok⟩
  refine enter Tryz.func29 rfl rfl rfl fun a E => ?_
  refine wp_seq ?_
  refine c_region ?_
  refine l_box E ok rfl rfl rfl fun b5 a w E ok => ?_
  refine l_val E ok (y_assign rfl) rfl rfl fun a E => ?_
  refine wpList_nil ?_
  refine t_norm ?_
  refine wp_seq ?_
  refine c_region ?_
  refine l_val E ok (y_move rfl) rfl rfl fun a E => ?_
  refine l_val E ok (y_fieldAddr fo_33_0 rfl) rfl rfl fun a E => ?_
  refine l_val E ok (y_load one_3 rfl (Holds.own 0 rfl rfl)) rfl rfl fun a E => ?_
  obtain ⟨r6, e7, hF⟩ := bnd hF
  refine l_call E go_53 rfl (decimal_Operand_w N number_1 lnumber_1 r_0.Operand r1 e7 hG ok) rfl rfl ?_
  rintro _ w ⟨⟨rfl, ok⟩, r8, r9⟩
  refine ⟨_, rfl, fun a E => ?_⟩
  refine l_val E ok (y_move rfl) rfl rfl fun a E => ?_
  refine l_val E ok (y_extract rfl rfl) rfl rfl fun a E => ?_
  refine l_val E ok (y_extract rfl rfl) rfl rfl fun a E => ?_
  refine l_val E ok (y_assign rfl) rfl rfl fun a E => ?_
  refine l_val E ok (y_assign rfl) rfl rfl fun a E => ?_
  refine wpList_nil ?_
  refine t_norm ?_
  refine wp_seq ?_
  refine wp_seq ?_
  refine c_region ?_
  refine l_val E ok (y_move rfl) rfl rfl fun a E => ?_
  refine l_val E ok (y_neq rfl rfl) rfl rfl fun a E => ?_
  refine wpList_nil ?_
  refine t_norm ?_
  refine c_if E rfl (fun hc10 => ?_) (fun hc10 => ?_)
  · replace hF := cond_t hc10 hF
    refine wp_seq ?_
    refine c_region ?_
    refine l_val E ok (y_fieldAddr fo_33_2 rfl) rfl rfl fun a E => ?_
    refine l_val E ok (y_load one_4 rfl (Holds.own 0 rfl rfl)) rfl rfl fun a E => ?_
    refine l_val E ok (y_assign rfl) rfl rfl fun a E => ?_
    refine wpList_nil ?_
    refine t_norm ?_
    refine wp_ret ?_
    refine t_ret ?_
    have hret : condition_holds_R u m0 S r_0.Not a w := ⟨ok.drop, E.d, ⟨rv_t E rfl, trivial⟩⟩
    obtain rfl := Option.some.inj hF
    exact fin _ _ hret
  replace hF := cond_f hc10 hF
  refine wp_skip ?_
  refine t_norm ?_
  refine wp_seq ?_
  refine wp_seq ?_
  refine c_region ?_
  refine l_val E ok (y_fieldAddr fo_33_1 rfl) rfl rfl fun a E => ?_
  refine l_val E ok (y_load one_3 rfl (Holds.own 0 rfl rfl)) rfl rfl fun a E => ?_
  refine l_val E ok (y_neq rfl rfl) rfl rfl fun a E => ?_
  refine wpList_nil ?_
  refine t_norm ?_
  obtain ⟨o11, hJ, hF⟩ := bnd hF
  refine c_mono (Q' := fun e a w => e = .normal ∧ Ok u m0 ([(b5, Obj.cells [(Value.int .i64 r_0.Operand), (Value.int .i64 r_0.Mod), (Value.bool r_0.Not), c3].toArray 33 (0, 0))] :: S) w ∧ Env 32 a [(2, (Value.pointer (some ⟨b5, 0, none⟩))), (5, (Value.int .i64 o11))] ∧ InR .i64 o11) ?_ ?_
  · replace hF := hJ
    clear hJ
    refine c_if E rfl (fun hc13 => ?_) (fun hc13 => ?_)
    rotate_left
    · replace hF := cond_f hc13 hF
      refine wp_skip ?_
      obtain rfl := Option.some.inj hF
      exact ⟨rfl, ⟨ok, E.keep [2, 5], r8⟩⟩
    replace hF := cond_t hc13 hF
    refine c_region ?_
    refine l_val E ok (y_move rfl) rfl rfl fun a E => ?_
    refine l_val E ok (y_fieldAddr fo_33_1 rfl) rfl rfl fun a E => ?_
    refine l_val E ok (y_load one_3 rfl (Holds.own 0 rfl rfl)) rfl rfl fun a E => ?_
    obtain ⟨q14, e15, hF⟩ := bnd hF
    refine l_val E ok (y_rm rfl rfl e15) rfl rfl fun a E => ?_
    refine l_val E ok (y_assign rfl) rfl rfl fun a E => ?_
    refine wpList_nil ?_
    obtain rfl := Option.some.inj hF
    exact ⟨rfl, ⟨ok, E.keep [2, 5], (rm_InR e15 r8)⟩⟩
  clear hJ
  intro e a w hO
  obtain ⟨rfl, ok, E, r16⟩ := hO
  refine t_norm ?_
  refine wp_seq ?_
  refine c_draw (by kernel_rfl) (by kernel_rfl) ok ?_
  refine q_val E (y_fieldAddr fo_33_3 rfl) rfl rfl fun a E => ?_
  refine q_val E (y_load one_31 rfl (Holds.own 0 rfl rfl)) rfl rfl fun a E => ?_
  refine q_val E (y_move rfl) rfl rfl fun a E => ?_
  obtain ⟨r17, e18, hF⟩ := bnd hF
  refine q_call E go_54 rfl (fun w ok => (condition_in_w N _ r_0.Spans h4 o11 r16 e18 hG ok).mono (fun _ _ h => h)) rfl rfl fun a E => ?_
  refine q_val E (y_fieldAddr fo_33_2 rfl) rfl rfl fun a E => ?_
  refine q_val E (y_load one_4 rfl (Holds.own 0 rfl rfl)) rfl rfl fun a E => ?_
  refine q_val E (y_bneq Tryz.underlying4 rfl rfl) rfl rfl fun a E => ?_
  refine q_val E (y_assign rfl) rfl rfl fun a E => ?_
  refine wpQuiet_nil ?_
  intro w ok
  refine t_norm ?_
  refine wp_ret ?_
  have hret : condition_holds_R u m0 S (r17 != r_0.Not) a w := ⟨ok.drop, E.d, ⟨rv_t E rfl, trivial⟩⟩
  obtain rfl := Option.some.inj hF
  exact fin _ _ hret

def condition_Holds_1_1_R (u : World) (m0 : Mem) (S : Segs) (pb0 : Nat) (x0 : List UInt8) (r : Bool) (a : Act) (w : World) : Prop :=
  Ok u m0 ([(pb0, Obj.cells [(Value.string (bs x0))].toArray 9 (0, 0))] :: S) w ∧ a.defers = [] ∧ RVs Tryz.prog a w [.t 3 (.bool r)]
set_option maxHeartbeats 4000000 in
set_option maxRecDepth 100000 in
theorem condition_Holds_1_1_w {u : World} {m0 : Mem} {S : Segs} {w : World} (N : Nat) (vr_0 : List Value) (r_0 : Relation) (hr_0 : pRelation m0 vr_0 r_0) {pb0 : Nat} (x0 : List UInt8) (l5 : x0.length ≤ LIMS) {r : Bool} (hF : condition_Holds_1_1 N r_0 x0 = some r) (hG : Glob u) (ok : Ok u m0 ([(pb0, Obj.cells [(Value.string (bs x0))].toArray 9 (0, 0))] :: S) w) :
    Calls Tryz.prog 28 [.agg vr_0.toArray, Value.pointer (some ⟨pb0, 0, none⟩)].toArray w fun e w' => (e = .returned (.bool r) ∧ Ok u m0 ([(pb0, Obj.cells [(Value.string (bs x0))].toArray 9 (0, 0))] :: S) w') := by
  obtain ⟨c3, rfl, r1, r2, h4⟩ := hr_0
  have hb0 := ok.base
  have le_m0 := Mem.le.refl m0
  unfold condition_Holds_1_1 at hF
  have fin : ∀ a w, condition_Holds_1_1_R u m0 S pb0 x0 r a w → bodyPost Tryz.prog Tryz.f28 (fun e w' => (e = .returned (.bool r) ∧ Ok u m0 ([(pb0, Obj.cells [(Value.string (bs x0))].toArray 9 (0, 0))] :: S) w')) .ret a w := by
    intro a w h
    obtain ⟨ok, hd, hrv⟩ := h
    exact c_ret2 [.t 3 (.bool r)] hd rfl hrv ⟨rfl, ok⟩
  refine enter Tryz.func28 rfl rfl rfl fun a E => ?_
  refine wp_seq ?_
  refine c_region ?_
  refine l_box E ok rfl rfl rfl fun b6 a w E ok => ?_
  refine l_val E ok (y_assign rfl) rfl rfl fun a E => ?_
  refine wpList_nil ?_
  refine t_norm ?_
  refine wp_seq ?_
  refine c_region ?_
  refine l_val E ok (y_loadAgg (cs := [(Value.int .i64 r_0.Operand), (Value.int .i64 r_0.Mod), (Value.bool r_0.Not), c3]) agg_33 rfl rfl (Holds.own 0 rfl rfl)) rfl rfl fun a E => ?_
  refine l_val E ok (y_load one_9 rfl (Holds.own 1 rfl rfl)) rfl rfl fun a E => ?_
  obtain ⟨r7, e8, hF⟩ := bnd hF
  refine l_call E go_29 rfl (condition_holds_w N _ r_0 ⟨_, rfl, r1, r2, h4⟩ x0 l5 e8 hG ok) rfl rfl ?_
  rintro _ w ⟨rfl, ok⟩
  refine ⟨_, rfl, fun a E => ?_⟩
  refine l_val E ok (y_not rfl) rfl rfl fun a E => ?_
  refine l_val E ok (y_assign rfl) rfl rfl fun a E => ?_
  refine wpList_nil ?_
  refine t_norm ?_
  refine wp_ret ?_
  have hret : condition_Holds_1_1_R u m0 S pb0 x0 (!r7) a w := ⟨ok.drop, E.d, ⟨rv_t E rfl, trivial⟩⟩
  obtain rfl := Option.some.inj hF
  exact fin _ _ hret

def slices_IndexFunc_api_Relation_api_Relation__28_R (u : World) (m0 : Mem) (S : Segs) (pb0 : Nat) (x0 : List UInt8) (r : Int) (a : Act) (w : World) : Prop :=
  Ok u m0 ([(pb0, Obj.cells [(Value.string (bs x0))].toArray 9 (0, 0))] :: S) w ∧ a.defers = [] ∧ RVs Tryz.prog a w [.t 4 (.int .i64 r)] ∧ InR .i64 r
set_option maxHeartbeats 4000000 in
set_option maxRecDepth 100000 in
theorem slices_IndexFunc_api_Relation_api_Relation__28_w {u : World} {m0 : Mem} {S : Segs} {w : World} (N : Nat) (vs_0 : Value) (s_0 : List (Relation)) (hs_0 : (pL 4 pRelation) m0 [vs_0] s_0) {pb0 : Nat} (x0 : List UInt8) (l1 : x0.length ≤ LIMS) {r : Int} (hF : slices_IndexFunc_api_Relation_api_Relation__28 N s_0 x0 = some r) (hG : Glob u) (ok : Ok u m0 ([(pb0, Obj.cells [(Value.string (bs x0))].toArray 9 (0, 0))] :: S) w) :
    Calls Tryz.prog 52 [vs_0, Value.func (.func 28) #[] #[.pointer (some ⟨pb0, 0, none⟩)]].toArray w fun e w' => (e = .returned (.int .i64 r) ∧ Ok u m0 ([(pb0, Obj.cells [(Value.string (bs x0))].toArray 9 (0, 0))] :: S) w') ∧ InR .i64 r := by
  have hb0 := ok.base
  have le_m0 := Mem.le.refl m0
  unfold slices_IndexFunc_api_Relation_api_Relation__28 at hF
  have fin : ∀ a w, slices_IndexFunc_api_Relation_api_Relation__28_R u m0 S pb0 x0 r a w → bodyPost Tryz.prog Tryz.f52 (fun e w' => (e = .returned (.int .i64 r) ∧ Ok u m0 ([(pb0, Obj.cells [(Value.string (bs x0))].toArray 9 (0, 0))] :: S) w') ∧ InR .i64 r) .ret a w := by
    intro a w h
    obtain ⟨ok, hd, hrv, h0⟩ := h
    exact c_ret2 [.t 4 (.int .i64 r)] hd rfl hrv ⟨⟨rfl, ok⟩, h0⟩
  refine enter Tryz.func52 rfl rfl rfl fun a E => ?_
  refine wp_seq ?_
  refine c_region ?_
  refine l_val E ok (y_assign rfl) rfl rfl fun a E => ?_
  refine wpList_nil ?_
  refine t_norm ?_
  refine wp_seq ?_
  refine wp_seq ?_
  refine c_region ?_
  refine l_val E ok (y_move rfl) rfl rfl fun a E => ?_
  refine l_val E ok (y_lenL sl_34 hs_0 rfl) rfl rfl fun a E => ?_
  refine l_val E ok (y_move rfl) rfl rfl fun a E => ?_
  refine wpList_nil ?_
  refine t_norm ?_
  refine wp_block ?_
  obtain ⟨o3, hL, hF⟩ := bnd hF
  refine c_loop _ (fun (s : Int) a w => Ok u m0 ([(pb0, Obj.cells [(Value.string (bs x0))].toArray 9 (0, 0))] :: S) w ∧ Env 19 a [(0, vs_0), (1, (Value.func (.func 28) #[] #[.pointer (some ⟨pb0, 0, none⟩)])), (7, (Value.int .i64 (s_0.length : Int))), (8, (Value.int .i64 s))] ∧ InR .i64 s) (fun (b : (Unit ⊕ Int)) e a w => (Sum.elim (fun b24 => e = (.exit 0) ∧ Ok u m0 ([(pb0, Obj.cells [(Value.string (bs x0))].toArray 9 (0, 0))] :: S) w ∧ Env 19 a []) (fun b25 => e = .ret ∧ slices_IndexFunc_api_Relation_api_Relation__28_R u m0 S pb0 x0 b25 a w)) b) ?_ ?_ N _ a w hL ⟨ok, E.keep [0, 1, 7, 8], (show InR .i64 (0) by decide)⟩
  rotate_left
  · intro e a w _ hO
    rcases o3 with o3 | o3
    rotate_left
    · replace hF := elim_r hF
      obtain ⟨rfl, hret⟩ := hO
      refine b_ret ?_
      refine t_ret ?_
      obtain rfl := Option.some.inj hF
      exact fin _ _ hret
    replace hF := elim_l hF
    obtain ⟨rfl, ok, E⟩ := hO
    refine b_hit ?_
    refine t_norm ?_
    refine wp_seq ?_
    refine c_region ?_
    refine l_val E ok (y_assign rfl) rfl rfl fun a E => ?_
    refine wpList_nil ?_
    refine t_norm ?_
    refine wp_ret ?_
    have hret : slices_IndexFunc_api_Relation_api_Relation__28_R u m0 S pb0 x0 (-1) a w := ⟨ok, E.d, ⟨rv_t E rfl, trivial⟩, (show InR .i64 (-1) by decide)⟩
    obtain rfl := Option.some.inj hF
    exact fin _ _ hret
  rintro x_5 a w r ⟨ok, E, r6⟩ hF
  replace hF : slices_IndexFunc_api_Relation_api_Relation__28_b1 N s_0 x0 x_5 = some r := hF
  unfold slices_IndexFunc_api_Relation_api_Relation__28_b1 at hF
  refine wp_seq ?_
  refine c_region ?_
  refine l_val E ok (y_lss rfl rfl) rfl rfl fun a E => ?_
  refine wpList_nil ?_
  refine t_norm ?_
  refine wp_seq ?_
  refine c_if E rfl (fun hc7 => ?_) (fun hc7 => ?_)
  rotate_left
  · replace hF := cond_f hc7 hF
    refine wp_exit ?_
    refine t_exit ?_
    obtain rfl := Option.some.inj hF
    exact step_o (by nofun) (sl ⟨rfl, ⟨ok, E.keep []⟩⟩)
  replace hF := cond_t hc7 hF
  refine wp_skip ?_
  refine t_norm ?_
  refine wp_seq ?_
  refine wp_block ?_
  refine wp_seq ?_
  refine c_region ?_
  refine l_val E ok (y_move rfl) rfl rfl fun a E => ?_
  refine l_val E ok (y_assign rfl) rfl rfl fun a E => ?_
  refine wpList_nil ?_
  refine t_norm ?_
  refine wp_seq ?_
  refine c_region ?_
  refine l_val E ok (y_move rfl) rfl rfl fun a E => ?_
  refine l_val E ok (y_move rfl) rfl rfl fun a E => ?_
  refine l_val E ok (y_move rfl) rfl rfl fun a E => ?_
  obtain ⟨x8, e9, hF⟩ := bnd hF
  obtain ⟨b10, o11, es12, hl13, rr14, at15, yy16⟩ := idxAt sl_34 hs_0 e9 (P := Tryz.prog) (X := .tmp 12) (I := .tmp 13) (kd := .i64) (ev_of E rfl) (ev_of E rfl)
  obtain ⟨c19, rfl, r17, r18, h20⟩ := rr14
  refine l_val E ok (yy16 _ _) rfl rfl fun a E => ?_
  refine l_val E ok (y_loadAgg (cs := [(Value.int .i64 x8.Operand), (Value.int .i64 x8.Mod), (Value.bool x8.Not), c19]) agg_33 rfl rfl (Holds.ro at15)) rfl rfl fun a E => ?_
  obtain ⟨r21, e22, hF⟩ := bnd hF
  refine l_callc E rfl go_28 rfl (condition_Holds_1_1_w N _ x8 ⟨_, rfl, r17, r18, h20⟩ x0 l1 e22 hG ok) rfl rfl ?_
  rintro _ w ⟨rfl, ok⟩
  refine ⟨_, rfl, fun a E => ?_⟩
  refine wpList_nil ?_
  refine t_norm ?_
  refine c_if E rfl (fun hc23 => ?_) (fun hc23 => ?_)
  rotate_left
  · replace hF := cond_f hc23 hF
    refine wp_skip ?_
    refine b_norm ?_
    refine t_norm ?_
    refine c_region ?_
    refine l_val E ok (y_add rfl rfl (InR.inc r6 (pL_InR hs_0) hc7)) rfl rfl fun a E => ?_
    refine l_val E ok (y_move rfl) rfl rfl fun a E => ?_
    refine wpList_nil ?_
    obtain rfl := Option.some.inj hF
    exact step_n ⟨ok, E.keep [0, 1, 7, 8], (InR.inc r6 (pL_InR hs_0) hc7)⟩
  replace hF := cond_t hc23 hF
  refine wp_seq ?_
  refine c_region ?_
  refine l_val E ok (y_move rfl) rfl rfl fun a E => ?_
  refine l_val E ok (y_assign rfl) rfl rfl fun a E => ?_
  refine wpList_nil ?_
  refine t_norm ?_
  refine wp_ret ?_
  refine b_ret ?_
  refine t_ret ?_
  have hret : slices_IndexFunc_api_Relation_api_Relation__28_R u m0 S pb0 x0 x_5 a w := ⟨ok, E.d, ⟨rv_t E rfl, trivial⟩, r6⟩
  obtain rfl := Option.some.inj hF
  exact step_o (by nofun) (sr ⟨rfl, hret⟩)

def slices_ContainsFunc_api_Relation_api_Relation__28_R (u : World) (m0 : Mem) (S : Segs) (pb0 : Nat) (x0 : List UInt8) (r : Bool) (a : Act) (w : World) : Prop :=
  Ok u m0 ([(pb0, Obj.cells [(Value.string (bs x0))].toArray 9 (0, 0))] :: S) w ∧ a.defers = [] ∧ RVs Tryz.prog a w [.t 4 (.bool r)]
set_option maxHeartbeats 4000000 in
set_option maxRecDepth 100000 in
theorem slices_ContainsFunc_api_Relation_api_Relation__28_w {u : World} {m0 : Mem} {S : Segs} {w : World} (N : Nat) (vs_0 : Value) (s_0 : List (Relation)) (hs_0 : (pL 4 pRelation) m0 [vs_0] s_0) {pb0 : Nat} (x0 : List UInt8) (l1 : x0.length ≤ LIMS) {r : Bool} (hF : slices_ContainsFunc_api_Relation_api_Relation__28 N s_0 x0 = some r) (hG : Glob u) (ok : Ok u m0 ([(pb0, Obj.cells [(Value.string (bs x0))].toArray 9 (0, 0))] :: S) w) :
    Calls Tryz.prog 27 [vs_0, Value.func (.func 28) #[] #[.pointer (some ⟨pb0, 0, none⟩)]].toArray w fun e w' => (e = .returned (.bool r) ∧ Ok u m0 ([(pb0, Obj.cells [(Value.string (bs x0))].toArray 9 (0, 0))] :: S) w') := by
  have hb0 := ok.base
  have le_m0 := Mem.le.refl m0
  unfold slices_ContainsFunc_api_Relation_api_Relation__28 at hF
  have fin : ∀ a w, slices_ContainsFunc_api_Relation_api_Relation__28_R u m0 S pb0 x0 r a w → bodyPost Tryz.prog Tryz.f27 (fun e w' => (e = .returned (.bool r) ∧ Ok u m0 ([(pb0, Obj.cells [(Value.string (bs x0))].toArray 9 (0, 0))] :: S) w')) .ret a w := by
    intro a w h
    obtain ⟨ok, hd, hrv⟩ := h
    exact c_ret2 [.t 4 (.bool r)] hd rfl hrv ⟨rfl, ok⟩
  refine enter Tryz.func27 rfl rfl rfl fun a E => ?_
  refine wp_seq ?_
  refine c_region ?_
  refine l_val E ok (y_assign rfl) rfl rfl fun a E => ?_
  refine wpList_nil ?_
  refine t_norm ?_
  refine wp_seq ?_
  refine c_region ?_
  refine l_val E ok (y_move rfl) rfl rfl fun a E => ?_
  refine l_val E ok (y_move rfl) rfl rfl fun a E => ?_
  obtain ⟨r2, e3, hF⟩ := bnd hF
  refine l_call E go_52 rfl (slices_IndexFunc_api_Relation_api_Relation__28_w N _ s_0 hs_0 x0 l1 e3 hG ok) rfl rfl ?_
  rintro _ w ⟨⟨rfl, ok⟩, r4⟩
  refine ⟨_, rfl, fun a E => ?_⟩
  refine l_val E ok (y_geq rfl rfl) rfl rfl fun a E => ?_
  refine l_val E ok (y_assign rfl) rfl rfl fun a E => ?_
  refine wpList_nil ?_
  refine t_norm ?_
  refine wp_ret ?_
  have hret : slices_ContainsFunc_api_Relation_api_Relation__28_R u m0 S pb0 x0 (decide (r2 ≥ 0)) a w := ⟨ok, E.d, ⟨rv_t E rfl, trivial⟩⟩
  obtain rfl := Option.some.inj hF
  exact fin _ _ hret

def condition_Holds_1_R (u : World) (m0 : Mem) (S : Segs) (pb0 : Nat) (x0 : List UInt8) (r : Bool) (a : Act) (w : World) : Prop :=
  Ok u m0 ([(pb0, Obj.cells [(Value.string (bs x0))].toArray 9 (0, 0))] :: S) w ∧ a.defers = [] ∧ RVs Tryz.prog a w [.t 3 (.bool r)]
set_option maxHeartbeats 4000000 in
set_option maxRecDepth 100000 in
theorem condition_Holds_1_w {u : World} {m0 : Mem} {S : Segs} {w : World} (N : Nat) (vlist_0 : Value) (list_0 : List (Relation)) (hlist_0 : (pL 4 pRelation) m0 [vlist_0] list_0) {pb0 : Nat} (x0 : List UInt8) (l1 : x0.length ≤ LIMS) {r : Bool} (hF : condition_Holds_1 N list_0 x0 = some r) (hG : Glob u) (ok : Ok u m0 ([(pb0, Obj.cells [(Value.string (bs x0))].toArray 9 (0, 0))] :: S) w) :
    Calls Tryz.prog 26 [vlist_0, Value.pointer (some ⟨pb0, 0, none⟩)].toArray w fun e w' => (e = .returned (.bool r) ∧ Ok u m0 ([(pb0, Obj.cells [(Value.string (bs x0))].toArray 9 (0, 0))] :: S) w') := by
  have hb0 := ok.base
  have le_m0 := Mem.le.refl m0
  unfold condition_Holds_1 at hF
  have fin : ∀ a w, condition_Holds_1_R u m0 S pb0 x0 r a w → bodyPost Tryz.prog Tryz.f26 (fun e w' => (e = .returned (.bool r) ∧ Ok u m0 ([(pb0, Obj.cells [(Value.string (bs x0))].toArray 9 (0, 0))] :: S) w')) .ret a w := by
    intro a w h
    obtain ⟨ok, hd, hrv⟩ := h
    exact c_ret2 [.t 3 (.bool r)] hd rfl hrv ⟨rfl, ok⟩
  refine enter Tryz.func26 rfl rfl rfl fun a E => ?_
  refine wp_seq ?_
  refine c_region ?_
  refine l_val E ok (y_assign rfl) rfl rfl fun a E => ?_
  refine wpList_nil ?_
  refine t_norm ?_
  refine wp_seq ?_
  refine c_region ?_
  refine l_val E ok (y_move rfl) rfl rfl fun a E => ?_
  refine l_val E ok (y_makeFunc (caps := [.tmp 1]) rfl) rfl rfl fun a E => ?_
  obtain ⟨r2, e3, hF⟩ := bnd hF
  refine l_call E go_27 rfl (slices_ContainsFunc_api_Relation_api_Relation__28_w N _ list_0 hlist_0 x0 l1 e3 hG ok) rfl rfl ?_
  rintro _ w ⟨rfl, ok⟩
  refine ⟨_, rfl, fun a E => ?_⟩
  refine l_val E ok (y_not rfl) rfl rfl fun a E => ?_
  refine l_val E ok (y_assign rfl) rfl rfl fun a E => ?_
  refine wpList_nil ?_
  refine t_norm ?_
  refine wp_ret ?_
  have hret : condition_Holds_1_R u m0 S pb0 x0 (!r2) a w := ⟨ok, E.d, ⟨rv_t E rfl, trivial⟩⟩
  obtain rfl := Option.some.inj hF
  exact fin _ _ hret

def slices_IndexFunc_api_Cond_api_Relation__26_R (u : World) (m0 : Mem) (S : Segs) (pb0 : Nat) (x0 : List UInt8) (r : Int) (a : Act) (w : World) : Prop :=
  Ok u m0 ([(pb0, Obj.cells [(Value.string (bs x0))].toArray 9 (0, 0))] :: S) w ∧ a.defers = [] ∧ RVs Tryz.prog a w [.t 4 (.int .i64 r)] ∧ InR .i64 r
set_option maxHeartbeats 4000000 in
set_option maxRecDepth 100000 in
theorem slices_IndexFunc_api_Cond_api_Relation__26_w {u : World} {m0 : Mem} {S : Segs} {w : World} (N : Nat) (vs_0 : Value) (s_0 : List (List (Relation))) (hs_0 : (pL 1 (pL 4 pRelation)) m0 [vs_0] s_0) {pb0 : Nat} (x0 : List UInt8) (l1 : x0.length ≤ LIMS) {r : Int} (hF : slices_IndexFunc_api_Cond_api_Relation__26 N s_0 x0 = some r) (hG : Glob u) (ok : Ok u m0 ([(pb0, Obj.cells [(Value.string (bs x0))].toArray 9 (0, 0))] :: S) w) :
    Calls Tryz.prog 51 [vs_0, Value.func (.func 26) #[] #[.pointer (some ⟨pb0, 0, none⟩)]].toArray w fun e w' => (e = .returned (.int .i64 r) ∧ Ok u m0 ([(pb0, Obj.cells [(Value.string (bs x0))].toArray 9 (0, 0))] :: S) w') ∧ InR .i64 r := by
  have hb0 := ok.base
  have le_m0 := Mem.le.refl m0
  unfold slices_IndexFunc_api_Cond_api_Relation__26 at hF
  have fin : ∀ a w, slices_IndexFunc_api_Cond_api_Relation__26_R u m0 S pb0 x0 r a w → bodyPost Tryz.prog Tryz.f51 (fun e w' => (e = .returned (.int .i64 r) ∧ Ok u m0 ([(pb0, Obj.cells [(Value.string (bs x0))].toArray 9 (0, 0))] :: S) w') ∧ InR .i64 r) .ret a w := by
    intro a w h
    obtain ⟨ok, hd, hrv, h0⟩ := h
    exact c_ret2 [.t 4 (.int .i64 r)] hd rfl hrv ⟨⟨rfl, ok⟩, h0⟩
  refine enter Tryz.func51 rfl rfl rfl fun a E => ?_
  refine wp_seq ?_
  refine c_region ?_
  refine l_val E ok (y_assign rfl) rfl rfl fun a E => ?_
  refine wpList_nil ?_
  refine t_norm ?_
  refine wp_seq ?_
  refine wp_seq ?_
  refine c_region ?_
  refine l_val E ok (y_move rfl) rfl rfl fun a E => ?_
  refine l_val E ok (y_lenL sl_23 hs_0 rfl) rfl rfl fun a E => ?_
  refine l_val E ok (y_move rfl) rfl rfl fun a E => ?_
  refine wpList_nil ?_
  refine t_norm ?_
  refine wp_block ?_
  obtain ⟨o3, hL, hF⟩ := bnd hF
  refine c_loop _ (fun (s : Int) a w => Ok u m0 ([(pb0, Obj.cells [(Value.string (bs x0))].toArray 9 (0, 0))] :: S) w ∧ Env 19 a [(0, vs_0), (1, (Value.func (.func 26) #[] #[.pointer (some ⟨pb0, 0, none⟩)])), (7, (Value.int .i64 (s_0.length : Int))), (8, (Value.int .i64 s))] ∧ InR .i64 s) (fun (b : (Unit ⊕ Int)) e a w => (Sum.elim (fun b22 => e = (.exit 0) ∧ Ok u m0 ([(pb0, Obj.cells [(Value.string (bs x0))].toArray 9 (0, 0))] :: S) w ∧ Env 19 a []) (fun b23 => e = .ret ∧ slices_IndexFunc_api_Cond_api_Relation__26_R u m0 S pb0 x0 b23 a w)) b) ?_ ?_ N _ a w hL ⟨ok, E.keep [0, 1, 7, 8], (show InR .i64 (0) by decide)⟩
  rotate_left
  · intro e a w _ hO
    rcases o3 with o3 | o3
    rotate_left
    · replace hF := elim_r hF
      obtain ⟨rfl, hret⟩ := hO
      refine b_ret ?_
      refine t_ret ?_
      obtain rfl := Option.some.inj hF
      exact fin _ _ hret
    replace hF := elim_l hF
    obtain ⟨rfl, ok, E⟩ := hO
    refine b_hit ?_
    refine t_norm ?_
    refine wp_seq ?_
    refine c_region ?_
    refine l_val E ok (y_assign rfl) rfl rfl fun a E => ?_
    refine wpList_nil ?_
    refine t_norm ?_
    refine wp_ret ?_
    have hret : slices_IndexFunc_api_Cond_api_Relation__26_R u m0 S pb0 x0 (-1) a w := ⟨ok, E.d, ⟨rv_t E rfl, trivial⟩, (show InR .i64 (-1) by decide)⟩
    obtain rfl := Option.some.inj hF
    exact fin _ _ hret
  rintro x_5 a w r ⟨ok, E, r6⟩ hF
  replace hF : slices_IndexFunc_api_Cond_api_Relation__26_b1 N s_0 x0 x_5 = some r := hF
  unfold slices_IndexFunc_api_Cond_api_Relation__26_b1 at hF
  refine wp_seq ?_
  refine c_region ?_
  refine l_val E ok (y_lss rfl rfl) rfl rfl fun a E => ?_
  refine wpList_nil ?_
  refine t_norm ?_
  refine wp_seq ?_
  refine c_if E rfl (fun hc7 => ?_) (fun hc7 => ?_)
  rotate_left
  · replace hF := cond_f hc7 hF
    refine wp_exit ?_
    refine t_exit ?_
    obtain rfl := Option.some.inj hF
    exact step_o (by nofun) (sl ⟨rfl, ⟨ok, E.keep []⟩⟩)
  replace hF := cond_t hc7 hF
  refine wp_skip ?_
  refine t_norm ?_
  refine wp_seq ?_
  refine wp_block ?_
  refine wp_seq ?_
  refine c_region ?_
  refine l_val E ok (y_move rfl) rfl rfl fun a E => ?_
  refine l_val E ok (y_assign rfl) rfl rfl fun a E => ?_
  refine wpList_nil ?_
  refine t_norm ?_
  refine wp_seq ?_
  refine c_region ?_
  refine l_val E ok (y_move rfl) rfl rfl fun a E => ?_
  refine l_val E ok (y_move rfl) rfl rfl fun a E => ?_
  refine l_val E ok (y_move rfl) rfl rfl fun a E => ?_
  obtain ⟨x8, e9, hF⟩ := bnd hF
  obtain ⟨b10, o11, es12, hl13, rr14, at15, yy16⟩ := idxAt sl_23 hs_0 e9 (P := Tryz.prog) (X := .tmp 12) (I := .tmp 13) (kd := .i64) (ev_of E rfl) (ev_of E rfl)
  obtain ⟨c17, rfl, h18⟩ := pL_cell rr14
  refine l_val E ok (yy16 _ _) rfl rfl fun a E => ?_
  refine l_val E ok (y_load one_34 rfl (Holds.ro at15)) rfl rfl fun a E => ?_
  obtain ⟨r19, e20, hF⟩ := bnd hF
  refine l_callc E rfl go_26 rfl (condition_Holds_1_w N _ x8 h18 x0 l1 e20 hG ok) rfl rfl ?_
  rintro _ w ⟨rfl, ok⟩
  refine ⟨_, rfl, fun a E => ?_⟩
  refine wpList_nil ?_
  refine t_norm ?_
  refine c_if E rfl (fun hc21 => ?_) (fun hc21 => ?_)
  rotate_left
  · replace hF := cond_f hc21 hF
    refine wp_skip ?_
    refine b_norm ?_
    refine t_norm ?_
    refine c_region ?_
    refine l_val E ok (y_add rfl rfl (InR.inc r6 (pL_InR hs_0) hc7)) rfl rfl fun a E => ?_
    refine l_val E ok (y_move rfl) rfl rfl fun a E => ?_
    refine wpList_nil ?_
    obtain rfl := Option.some.inj hF
    exact step_n ⟨ok, E.keep [0, 1, 7, 8], (InR.inc r6 (pL_InR hs_0) hc7)⟩
  replace hF := cond_t hc21 hF
  refine wp_seq ?_
  refine c_region ?_
  refine l_val E ok (y_move rfl) rfl rfl fun a E => ?_
  refine l_val E ok (y_assign rfl) rfl rfl fun a E => ?_
  refine wpList_nil ?_
  refine t_norm ?_
  refine wp_ret ?_
  refine b_ret ?_
  refine t_ret ?_
  have hret : slices_IndexFunc_api_Cond_api_Relation__26_R u m0 S pb0 x0 x_5 a w := ⟨ok, E.d, ⟨rv_t E rfl, trivial⟩, r6⟩
  obtain rfl := Option.some.inj hF
  exact step_o (by nofun) (sr ⟨rfl, hret⟩)

def slices_ContainsFunc_api_Cond_api_Relation__26_R (u : World) (m0 : Mem) (S : Segs) (pb0 : Nat) (x0 : List UInt8) (r : Bool) (a : Act) (w : World) : Prop :=
  Ok u m0 ([(pb0, Obj.cells [(Value.string (bs x0))].toArray 9 (0, 0))] :: S) w ∧ a.defers = [] ∧ RVs Tryz.prog a w [.t 4 (.bool r)]
set_option maxHeartbeats 4000000 in
set_option maxRecDepth 100000 in
theorem slices_ContainsFunc_api_Cond_api_Relation__26_w {u : World} {m0 : Mem} {S : Segs} {w : World} (N : Nat) (vs_0 : Value) (s_0 : List (List (Relation))) (hs_0 : (pL 1 (pL 4 pRelation)) m0 [vs_0] s_0) {pb0 : Nat} (x0 : List UInt8) (l1 : x0.length ≤ LIMS) {r : Bool} (hF : slices_ContainsFunc_api_Cond_api_Relation__26 N s_0 x0 = some r) (hG : Glob u) (ok : Ok u m0 ([(pb0, Obj.cells [(Value.string (bs x0))].toArray 9 (0, 0))] :: S) w) :
    Calls Tryz.prog 25 [vs_0, Value.func (.func 26) #[] #[.pointer (some ⟨pb0, 0, none⟩)]].toArray w fun e w' => (e = .returned (.bool r) ∧ Ok u m0 ([(pb0, Obj.cells [(Value.string (bs x0))].toArray 9 (0, 0))] :: S) w') := by
  have hb0 := ok.base
  have le_m0 := Mem.le.refl m0
  unfold slices_ContainsFunc_api_Cond_api_Relation__26 at hF
  have fin : ∀ a w, slices_ContainsFunc_api_Cond_api_Relation__26_R u m0 S pb0 x0 r a w → bodyPost Tryz.prog Tryz.f25 (fun e w' => (e = .returned (.bool r) ∧ Ok u m0 ([(pb0, Obj.cells [(Value.string (bs x0))].toArray 9 (0, 0))] :: S) w')) .ret a w := by
    intro a w h
    obtain ⟨ok, hd, hrv⟩ := h
    exact c_ret2 [.t 4 (.bool r)] hd rfl hrv ⟨rfl, ok⟩
  refine enter Tryz.func25 rfl rfl rfl fun a E => ?_
  refine wp_seq ?_
  refine c_region ?_
  refine l_val E ok (y_assign rfl) rfl rfl fun a E => ?_
  refine wpList_nil ?_
  refine t_norm ?_
  refine wp_seq ?_
  refine c_region ?_
  refine l_val E ok (y_move rfl) rfl rfl fun a E => ?_
  refine l_val E ok (y_move rfl) rfl rfl fun a E => ?_
  obtain ⟨r2, e3, hF⟩ := bnd hF
  refine l_call E go_51 rfl (slices_IndexFunc_api_Cond_api_Relation__26_w N _ s_0 hs_0 x0 l1 e3 hG ok) rfl rfl ?_
  rintro _ w ⟨⟨rfl, ok⟩, r4⟩
  refine ⟨_, rfl, fun a E => ?_⟩
  refine l_val E ok (y_geq rfl rfl) rfl rfl fun a E => ?_
  refine l_val E ok (y_assign rfl) rfl rfl fun a E => ?_
  refine wpList_nil ?_
  refine t_norm ?_
  refine wp_ret ?_
  have hret : slices_ContainsFunc_api_Cond_api_Relation__26_R u m0 S pb0 x0 (decide (r2 ≥ 0)) a w := ⟨ok, E.d, ⟨rv_t E rfl, trivial⟩⟩
  obtain rfl := Option.some.inj hF
  exact fin _ _ hret

def condition_Holds_R (u : World) (m0 : Mem) (S : Segs) (r : Bool × Int) (a : Act) (w : World) : Prop :=
  Ok u m0 S w ∧ a.defers = [] ∧ RVs Tryz.prog a w [.t 4 (.bool r.1), .t 5 (.int .i64 r.2)] ∧ InR .i64 r.2
set_option maxHeartbeats 4000000 in
set_option maxRecDepth 100000 in
theorem condition_Holds_w {u : World} {m0 : Mem} {S : Segs} {w : World} (N : Nat) (vc_0 : Value) (c_0 : List (List (Relation))) (hc_0 : (pL 1 (pL 4 pRelation)) m0 [vc_0] c_0) (number_1 : List UInt8) (lnumber_1 : number_1.length ≤ LIMS) {r : Bool × Int} (hF : condition_Holds N c_0 number_1 = some r) (hG : Glob u) (ok : Ok u m0 S w) :
    Calls Tryz.prog 11 [vc_0, Value.string (bs number_1)].toArray w fun e w' => (e = .returned (.tuple [(.bool r.1), (.int .i64 r.2)].toArray) ∧ Ok u m0 S w') ∧ InR .i64 r.2 := by
  have hb0 := ok.base
  have le_m0 := Mem.le.refl m0
  unfold condition_Holds at hF
  have fin : ∀ a w, condition_Holds_R u m0 S r a w → bodyPost Tryz.prog Tryz.f11 (fun e w' => (e = .returned (.tuple [(.bool r.1), (.int .i64 r.2)].toArray) ∧ Ok u m0 S w') ∧ InR .i64 r.2) .ret a w := by
    intro a w h
    obtain ⟨ok, hd, hrv, h0⟩ := h
    exact c_ret2 [.t 4 (.bool r.1), .t 5 (.int .i64 r.2)] hd rfl hrv ⟨⟨rfl, ok⟩, h0⟩
  refine enter Tryz.func11 rfl rfl rfl fun a E => ?_
  refine wp_seq ?_
  refine c_region ?_
  refine l_box E ok rfl rfl rfl fun b1 a w E ok => ?_
  refine l_val E ok (y_assign rfl) rfl rfl fun a E => ?_
  refine l_val E ok (y_assign rfl) rfl rfl fun a E => ?_
  refine wpList_nil ?_
  refine t_norm ?_
  refine wp_seq ?_
  refine wp_seq ?_
  refine c_region ?_
  refine l_val E ok (y_move rfl) rfl rfl fun a E => ?_
  obtain ⟨r2, e3, hF⟩ := bnd hF
  refine l_call E go_22 rfl (condition_Valid_w N _ c_0 hc_0 e3 hG ok) rfl rfl ?_
  rintro _ w ⟨rfl, ok⟩
  refine ⟨_, rfl, fun a E => ?_⟩
  refine l_val E ok (y_not rfl) rfl rfl fun a E => ?_
  refine l_val E ok (y_move rfl) rfl rfl fun a E => ?_
  refine bsplit (!r2) (fun hc4 => ?_) (fun hc4 => ?_)
  · replace hF := cond_t hc4 hF
    replace E := E.upd 9 hc4 rfl
    refine l_skip E rfl rfl fun a E => ?_
    refine l_skip E rfl rfl fun a E => ?_
    refine l_skip E rfl rfl fun a E => ?_
    refine l_val E ok (y_pickT rfl rfl) rfl rfl fun a E => ?_
    refine wpList_nil ?_
    refine t_norm ?_
    refine c_if E rfl (fun _ => ?_) (fun h => by cases h)
    refine wp_seq ?_
    refine c_region ?_
    refine l_val E ok (y_assign rfl) rfl rfl fun a E => ?_
    refine l_val E ok (y_assign rfl) rfl rfl fun a E => ?_
    refine wpList_nil ?_
    refine t_norm ?_
    refine wp_ret ?_
    refine t_ret ?_
    have hret : condition_Holds_R u m0 S (false, 1) a w := ⟨ok.drop, E.d, ⟨rv_t E rfl, rv_t E rfl, trivial⟩, (show InR .i64 (1) by decide)⟩
    obtain rfl := Option.some.inj hF
    exact fin _ _ hret
  replace hF := cond_f hc4 hF
  replace E := E.upd 9 hc4 rfl
  refine l_val E ok (y_load one_9 rfl (Holds.own 0 rfl rfl)) rfl rfl fun a E => ?_
  obtain ⟨r5, e6, hF⟩ := bnd hF
  refine l_call E go_24 rfl (decimal_Valid_w N number_1 lnumber_1 e6 hG ok) rfl rfl ?_
  rintro _ w ⟨rfl, ok⟩
  refine ⟨_, rfl, fun a E => ?_⟩
  refine l_val E ok (y_not rfl) rfl rfl fun a E => ?_
  refine l_val E ok (y_pickF rfl rfl) rfl rfl fun a E => ?_
  refine wpList_nil ?_
  refine t_norm ?_
  refine c_if E rfl (fun hc7 => ?_) (fun hc7 => ?_)
  · replace hF := cond_t hc7 hF
    refine wp_seq ?_
    refine c_region ?_
    refine l_val E ok (y_assign rfl) rfl rfl fun a E => ?_
    refine l_val E ok (y_assign rfl) rfl rfl fun a E => ?_
    refine wpList_nil ?_
    refine t_norm ?_
    refine wp_ret ?_
    refine t_ret ?_
    have hret : condition_Holds_R u m0 S (false, 1) a w := ⟨ok.drop, E.d, ⟨rv_t E rfl, rv_t E rfl, trivial⟩, (show InR .i64 (1) by decide)⟩
    obtain rfl := Option.some.inj hF
    exact fin _ _ hret
  replace hF := cond_f hc7 hF
  refine wp_skip ?_
  refine t_norm ?_
  refine wp_seq ?_
  refine c_region ?_
  refine l_val E ok (y_move rfl) rfl rfl fun a E => ?_
  refine l_val E ok (y_makeFunc (caps := [.tmp 3]) rfl) rfl rfl fun a E => ?_
  obtain ⟨r8, e9, hF⟩ := bnd hF
  refine l_call E go_25 rfl (slices_ContainsFunc_api_Cond_api_Relation__26_w N _ c_0 hc_0 number_1 lnumber_1 e9 hG ok) rfl rfl ?_
  rintro _ w ⟨rfl, ok⟩
  refine ⟨_, rfl, fun a E => ?_⟩
  refine l_val E ok (y_assign rfl) rfl rfl fun a E => ?_
  refine l_val E ok (y_assign rfl) rfl rfl fun a E => ?_
  refine wpList_nil ?_
  refine t_norm ?_
  refine wp_ret ?_
  have hret : condition_Holds_R u m0 S (r8, 0) a w := ⟨ok.drop, E.d, ⟨rv_t E rfl, rv_t E rfl, trivial⟩, (show InR .i64 (0) by decide)⟩
  obtain rfl := Option.some.inj hF
  exact fin _ _ hret

def calqueref08_Few_R (u : World) (m0 : Mem) (S : Segs) (r : Bool) (a : Act) (w : World) : Prop :=
  Ok u m0 S w ∧ a.defers = [] ∧ RVs Tryz.prog a w [.t 2 (.bool r)]
set_option maxHeartbeats 4000000 in
set_option maxRecDepth 100000 in
theorem calqueref08_Few_w {u : World} {m0 : Mem} {S : Segs} {w : World} (N : Nat) (vc_0 : Value) (c_0 : List (List (Relation))) (hc_0 : (pL 1 (pL 4 pRelation)) m0 [vc_0] c_0) {r : Bool} (hF : calqueref08_Few N c_0 = some r) (hG : Glob u) (ok : Ok u m0 S w) :
    Calls Tryz.prog 10 [vc_0].toArray w fun e w' => (e = .returned (.bool r) ∧ Ok u m0 S w') := by
  have hb0 := ok.base
  have le_m0 := Mem.le.refl m0
  unfold calqueref08_Few at hF
  have fin : ∀ a w, calqueref08_Few_R u m0 S r a w → bodyPost Tryz.prog Tryz.f10 (fun e w' => (e = .returned (.bool r) ∧ Ok u m0 S w')) .ret a w := by
    intro a w h
    obtain ⟨ok, hd, hrv⟩ := h
    exact c_ret2 [.t 2 (.bool r)] hd rfl hrv ⟨rfl, ok⟩
  refine enter Tryz.func10 rfl rfl rfl fun a E => ?_
  refine wp_seq ?_
  refine c_region ?_
  refine l_val E ok (y_assign rfl) rfl rfl fun a E => ?_
  refine wpList_nil ?_
  refine t_norm ?_
  refine wp_seq ?_
  refine c_region ?_
  refine l_val E ok (y_assign rfl) rfl rfl fun a E => ?_
  refine wpList_nil ?_
  refine t_norm ?_
  refine wp_seq ?_
  refine wp_seq ?_
  refine c_region ?_
  refine l_val E ok (y_assign rfl) rfl rfl fun a E => ?_
  refine wpList_nil ?_
  refine t_norm ?_
  refine wp_block ?_
  obtain ⟨o3, hL, hF⟩ := bnd hF
  refine c_loop _ (fun (s : Int × Int) a w => Ok u m0 (S) w ∧ Env 38 a [(0, vc_0), (3, (Value.int .i64 s.1)), (4, (Value.int .i64 s.2))] ∧ InR .i64 s.1 ∧ InR .i64 s.2) (fun (b : (Unit ⊕ Bool)) e a w => (Sum.elim (fun b59 => e = (.exit 0) ∧ Ok u m0 (S) w ∧ Env 38 a [(0, vc_0)]) (fun b60 => e = .ret ∧ calqueref08_Few_R u m0 S b60 a w)) b) ?_ ?_ N _ a w hL ⟨ok, E.keep [0, 3, 4], (show InR .i64 (0) by decide), (show InR .i64 (0) by decide)⟩
  rotate_left
  · intro e a w _ hO
    rcases o3 with o3 | o3
    rotate_left
    · replace hF := elim_r hF
      obtain ⟨rfl, hret⟩ := hO
      refine b_ret ?_
      refine t_ret ?_
      obtain rfl := Option.some.inj hF
      exact fin _ _ hret
    replace hF := elim_l hF
    obtain ⟨rfl, ok, E⟩ := hO
    refine b_hit ?_
    refine t_norm ?_
    refine wp_seq ?_
    refine c_region ?_
    refine l_val E ok (y_move rfl) rfl rfl fun a E => ?_
    refine l_val E ok (y_lenL sl_23 hc_0 rfl) rfl rfl fun a E => ?_
    refine l_val E ok (y_leq rfl rfl) rfl rfl fun a E => ?_
    refine l_val E ok (y_assign rfl) rfl rfl fun a E => ?_
    refine wpList_nil ?_
    refine t_norm ?_
    refine wp_ret ?_
    have hret : calqueref08_Few_R u m0 S (decide ((c_0.length : Int) ≤ 30)) a w := ⟨ok, E.d, ⟨rv_t E rfl, trivial⟩⟩
    obtain rfl := Option.some.inj hF
    exact fin _ _ hret
  rintro ⟨n_6, i_7⟩ a w r ⟨ok, E, r8, r9⟩ hF
  replace hF : calqueref08_Few_b1 N c_0 n_6 i_7 = some r := hF
  unfold calqueref08_Few_b1 at hF
  refine wp_seq ?_
  refine wp_seq ?_
  refine c_region ?_
  refine l_val E ok (y_move rfl) rfl rfl fun a E => ?_
  refine l_val E ok (y_move rfl) rfl rfl fun a E => ?_
  refine l_val E ok (y_lenL sl_23 hc_0 rfl) rfl rfl fun a E => ?_
  refine l_val E ok (y_lss rfl rfl) rfl rfl fun a E => ?_
  refine wpList_nil ?_
  refine t_norm ?_
  refine c_if E rfl (fun hc10 => ?_) (fun hc10 => ?_)
  rotate_left
  · replace hF := cond_f hc10 hF
    refine wp_exit ?_
    refine t_exit ?_
    obtain rfl := Option.some.inj hF
    exact step_o (by nofun) (sl ⟨rfl, ⟨ok, E.keep [0]⟩⟩)
  replace hF := cond_t hc10 hF
  refine wp_skip ?_
  refine t_norm ?_
  refine wp_seq ?_
  refine wp_block ?_
  refine wp_seq ?_
  refine wp_seq ?_
  refine c_region ?_
  refine l_val E ok (y_assign rfl) rfl rfl fun a E => ?_
  refine wpList_nil ?_
  refine t_norm ?_
  refine wp_block ?_
  obtain ⟨o13, hL, hF⟩ := bnd hF
  refine c_loop _ (fun (s : Int × Int) a w => Ok u m0 (S) w ∧ Env 38 a [(0, vc_0), (3, (Value.int .i64 s.1)), (4, (Value.int .i64 i_7)), (5, (Value.int .i64 s.2))] ∧ InR .i64 s.1 ∧ InR .i64 s.2) (fun (b : Int) e a w => e = (.exit 2) ∧ Ok u m0 (S) w ∧ Env 38 a [(0, vc_0), (3, (Value.int .i64 b)), (4, (Value.int .i64 i_7))] ∧ InR .i64 b) ?_ ?_ N _ a w hL ⟨ok, E.keep [0, 3, 4, 5], r8, (show InR .i64 (0) by decide)⟩
  rotate_left
  · intro e a w _ hO
    obtain ⟨rfl, ok, E, r56⟩ := hO
    refine b_hit ?_
    refine t_norm ?_
    refine wp_seq ?_
    refine c_region ?_
    refine l_val E ok (y_move rfl) rfl rfl fun a E => ?_
    refine l_val E ok (y_gtr rfl rfl) rfl rfl fun a E => ?_
    refine wpList_nil ?_
    refine t_norm ?_
    refine c_if E rfl (fun hc57 => ?_) (fun hc57 => ?_)
    rotate_left
    · replace hF := cond_f hc57 hF
      refine wp_skip ?_
      refine b_norm ?_
      refine t_norm ?_
      refine c_region ?_
      refine l_val E ok (y_move rfl) rfl rfl fun a E => ?_
      refine l_val E ok (y_add rfl rfl (InR.inc r9 (pL_InR hc_0) hc10)) rfl rfl fun a E => ?_
      refine l_val E ok (y_assign rfl) rfl rfl fun a E => ?_
      refine wpList_nil ?_
      obtain rfl := Option.some.inj hF
      exact step_n ⟨ok, E.keep [0, 3, 4], r56, (InR.inc r9 (pL_InR hc_0) hc10)⟩
    replace hF := cond_t hc57 hF
    refine wp_seq ?_
    refine c_region ?_
    refine l_val E ok (y_assign rfl) rfl rfl fun a E => ?_
    refine wpList_nil ?_
    refine t_norm ?_
    refine wp_ret ?_
    refine b_ret ?_
    refine t_ret ?_
    have hret : calqueref08_Few_R u m0 S false a w := ⟨ok, E.d, ⟨rv_t E rfl, trivial⟩⟩
    obtain rfl := Option.some.inj hF
    exact step_o (by nofun) (sr ⟨rfl, hret⟩)
  rintro ⟨n_16, k_17⟩ a w r ⟨ok, E, r18, r19⟩ hF
  replace hF : calqueref08_Few_b2 N c_0 i_7 n_16 k_17 = some r := hF
  unfold calqueref08_Few_b2 at hF
  refine wp_seq ?_
  refine wp_seq ?_
  refine c_region ?_
  refine l_val E ok (y_move rfl) rfl rfl fun a E => ?_
  refine l_val E ok (y_move rfl) rfl rfl fun a E => ?_
  refine l_val E ok (y_move rfl) rfl rfl fun a E => ?_
  obtain ⟨x20, e21, hF⟩ := bnd hF
  obtain ⟨b22, o23, es24, hl25, rr26, at27, yy28⟩ := idxAt sl_23 hc_0 e21 (P := Tryz.prog) (X := .tmp 13) (I := .tmp 14) (kd := .i64) (ev_of E rfl) (ev_of E rfl)
  obtain ⟨c29, rfl, h30⟩ := pL_cell rr26
  refine l_val E ok (yy28 _ _) rfl rfl fun a E => ?_
  refine l_val E ok (y_load one_34 rfl (Holds.ro at27)) rfl rfl fun a E => ?_
  refine l_val E ok (y_lenL sl_34 h30 rfl) rfl rfl fun a E => ?_
  refine l_val E ok (y_lss rfl rfl) rfl rfl fun a E => ?_
  refine wpList_nil ?_
  refine t_norm ?_
  refine c_if E rfl (fun hc31 => ?_) (fun hc31 => ?_)
  rotate_left
  · replace hF := cond_f hc31 hF
    refine wp_exit ?_
    refine t_exit ?_
    obtain rfl := Option.some.inj hF
    exact step_o (by nofun) (⟨rfl, ⟨ok, E.keep [0, 3, 4], r18⟩⟩)
  replace hF := cond_t hc31 hF
  refine wp_skip ?_
  refine t_norm ?_
  refine wp_seq ?_
  refine wp_block ?_
  refine c_region ?_
  refine l_val E ok (y_move rfl) rfl rfl fun a E => ?_
  refine l_val E ok (y_move rfl) rfl rfl fun a E => ?_
  refine l_val E ok (y_move rfl) rfl rfl fun a E => ?_
  obtain ⟨x32, e33, hF⟩ := bnd hF
  obtain ⟨b34, o35, es36, hl37, rr38, at39, yy40⟩ := idxAt sl_23 hc_0 e33 (P := Tryz.prog) (X := .tmp 22) (I := .tmp 23) (kd := .i64) (ev_of E rfl) (ev_of E rfl)
  obtain ⟨c41, rfl, h42⟩ := pL_cell rr38
  refine l_val E ok (yy40 _ _) rfl rfl fun a E => ?_
  refine l_val E ok (y_load one_34 rfl (Holds.ro at39)) rfl rfl fun a E => ?_
  refine l_val E ok (y_move rfl) rfl rfl fun a E => ?_
  obtain ⟨x43, e44, hF⟩ := bnd hF
  obtain ⟨b45, o46, es47, hl48, rr49, at50, yy51⟩ := idxAt sl_34 h42 e44 (P := Tryz.prog) (X := .tmp 25) (I := .tmp 26) (kd := .i64) (ev_of E rfl) (ev_of E rfl)
  obtain ⟨c54, rfl, r52, r53, h55⟩ := rr49
  refine l_val E ok (yy51 _ _) rfl rfl fun a E => ?_
  refine l_val E ok (y_fieldAddr fo_33_3 rfl) rfl rfl fun a E => ?_
  refine l_val E ok (y_load one_31 rfl (Holds.ro (At.sub 3 1 at50))) rfl rfl fun a E => ?_
  refine l_val E ok (y_lenL sl_31 h55 rfl) rfl rfl fun a E => ?_
  refine l_val E ok (y_addw rfl rfl) rfl rfl fun a E => ?_
  refine l_val E ok (y_addw rfl rfl) rfl rfl fun a E => ?_
  refine l_val E ok (y_assign rfl) rfl rfl fun a E => ?_
  refine wpList_nil ?_
  refine b_norm ?_
  refine t_norm ?_
  refine c_region ?_
  refine l_val E ok (y_move rfl) rfl rfl fun a E => ?_
  refine l_val E ok (y_add rfl rfl (InR.inc r19 (pL_InR h30) hc31)) rfl rfl fun a E => ?_
  refine l_val E ok (y_assign rfl) rfl rfl fun a E => ?_
  refine wpList_nil ?_
  obtain rfl := Option.some.inj hF
  exact step_n ⟨ok, E.keep [0, 3, 4, 5], (InR.wrap _ _), (InR.inc r19 (pL_InR h30) hc31)⟩

def calqueref08_has_R (u : World) (m0 : Mem) (S : Segs) (r : Bool) (a : Act) (w : World) : Prop :=
  Ok u m0 S w ∧ a.defers = [] ∧ RVs Tryz.prog a w [.t 4 (.bool r)]
set_option maxHeartbeats 4000000 in
set_option maxRecDepth 100000 in
theorem calqueref08_has_w {u : World} {m0 : Mem} {S : Segs} {w : World} (N : Nat) (vl_0 : Value) (l_0 : List (Int)) (hl_0 : (pL 1 (pI .i64)) m0 [vl_0] l_0) (n_1 : Int) (rn_1 : InR .i64 n_1) {r : Bool} (hF : calqueref08_has N l_0 n_1 = some r) (hG : Glob u) (ok : Ok u m0 S w) :
    Calls Tryz.prog 57 [vl_0, Value.int .i64 n_1].toArray w fun e w' => (e = .returned (.bool r) ∧ Ok u m0 S w') := by
  have hb0 := ok.base
  have le_m0 := Mem.le.refl m0
  unfold calqueref08_has at hF
  have fin : ∀ a w, calqueref08_has_R u m0 S r a w → bodyPost Tryz.prog Tryz.f57 (fun e w' => (e = .returned (.bool r) ∧ Ok u m0 S w')) .ret a w := by
    intro a w h
    obtain ⟨ok, hd, hrv⟩ := h
    exact c_ret2 [.t 4 (.bool r)] hd rfl hrv ⟨rfl, ok⟩
  refine enter Tryz.func57 rfl rfl rfl fun a E => ?_
  refine wp_seq ?_
  refine c_region ?_
  refine l_val E ok (y_assign rfl) rfl rfl fun a E => ?_
  refine wpList_nil ?_
  refine t_norm ?_
  refine wp_seq ?_
  refine wp_seq ?_
  refine c_region ?_
  refine l_val E ok (y_assign rfl) rfl rfl fun a E => ?_
  refine wpList_nil ?_
  refine t_norm ?_
  refine wp_block ?_
  obtain ⟨o2, hL, hF⟩ := bnd hF
  refine c_loop _ (fun (s : Int) a w => Ok u m0 (S) w ∧ Env 18 a [(0, vl_0), (1, (Value.int .i64 n_1)), (5, (Value.int .i64 s))] ∧ InR .i64 s) (fun (b : (Unit ⊕ Bool)) e a w => (Sum.elim (fun b18 => e = (.exit 0) ∧ Ok u m0 (S) w ∧ Env 18 a []) (fun b19 => e = .ret ∧ calqueref08_has_R u m0 S b19 a w)) b) ?_ ?_ N _ a w hL ⟨ok, E.keep [0, 1, 5], (show InR .i64 (0) by decide)⟩
  rotate_left
  · intro e a w _ hO
    rcases o2 with o2 | o2
    rotate_left
    · replace hF := elim_r hF
      obtain ⟨rfl, hret⟩ := hO
      refine b_ret ?_
      refine t_ret ?_
      obtain rfl := Option.some.inj hF
      exact fin _ _ hret
    replace hF := elim_l hF
    obtain ⟨rfl, ok, E⟩ := hO
    refine b_hit ?_
    refine t_norm ?_
    refine wp_seq ?_
    refine c_region ?_
    refine l_val E ok (y_assign rfl) rfl rfl fun a E => ?_
    refine wpList_nil ?_
    refine t_norm ?_
    refine wp_ret ?_
    have hret : calqueref08_has_R u m0 S false a w := ⟨ok, E.d, ⟨rv_t E rfl, trivial⟩⟩
    obtain rfl := Option.some.inj hF
    exact fin _ _ hret
  rintro i_4 a w r ⟨ok, E, r5⟩ hF
  replace hF : calqueref08_has_b1 N l_0 n_1 i_4 = some r := hF
  unfold calqueref08_has_b1 at hF
  refine wp_seq ?_
  refine wp_seq ?_
  refine c_region ?_
  refine l_val E ok (y_move rfl) rfl rfl fun a E => ?_
  refine l_val E ok (y_move rfl) rfl rfl fun a E => ?_
  refine l_val E ok (y_lenL sl_79 hl_0 rfl) rfl rfl fun a E => ?_
  refine l_val E ok (y_lss rfl rfl) rfl rfl fun a E => ?_
  refine wpList_nil ?_
  refine t_norm ?_
  refine c_if E rfl (fun hc6 => ?_) (fun hc6 => ?_)
  rotate_left
  · replace hF := cond_f hc6 hF
    refine wp_exit ?_
    refine t_exit ?_
    obtain rfl := Option.some.inj hF
    exact step_o (by nofun) (sl ⟨rfl, ⟨ok, E.keep []⟩⟩)
  replace hF := cond_t hc6 hF
  refine wp_skip ?_
  refine t_norm ?_
  refine wp_seq ?_
  refine wp_block ?_
  refine wp_seq ?_
  refine c_region ?_
  refine l_val E ok (y_move rfl) rfl rfl fun a E => ?_
  refine l_val E ok (y_move rfl) rfl rfl fun a E => ?_
  obtain ⟨x7, e8, hF⟩ := bnd hF
  obtain ⟨b9, o10, es11, hl12, rr13, at14, yy15⟩ := idxAt sl_79 hl_0 e8 (P := Tryz.prog) (X := .tmp 12) (I := .tmp 13) (kd := .i64) (ev_of E rfl) (ev_of E rfl)
  obtain ⟨rfl, r16⟩ := rr13
  refine l_val E ok (yy15 _ _) rfl rfl fun a E => ?_
  refine l_val E ok (y_load one_3 rfl (Holds.ro at14)) rfl rfl fun a E => ?_
  refine l_val E ok (y_move rfl) rfl rfl fun a E => ?_
  refine l_val E ok (y_eql rfl rfl) rfl rfl fun a E => ?_
  refine wpList_nil ?_
  refine t_norm ?_
  refine c_if E rfl (fun hc17 => ?_) (fun hc17 => ?_)
  rotate_left
  · replace hF := cond_f hc17 hF
    refine wp_skip ?_
    refine b_norm ?_
    refine t_norm ?_
    refine c_region ?_
    refine l_val E ok (y_move rfl) rfl rfl fun a E => ?_
    refine l_val E ok (y_add rfl rfl (InR.inc r5 (pL_InR hl_0) hc6)) rfl rfl fun a E => ?_
    refine l_val E ok (y_assign rfl) rfl rfl fun a E => ?_
    refine wpList_nil ?_
    obtain rfl := Option.some.inj hF
    exact step_n ⟨ok, E.keep [0, 1, 5], (InR.inc r5 (pL_InR hl_0) hc6)⟩
  replace hF := cond_t hc17 hF
  refine wp_seq ?_
  refine c_region ?_
  refine l_val E ok (y_assign rfl) rfl rfl fun a E => ?_
  refine wpList_nil ?_
  refine t_norm ?_
  refine wp_ret ?_
  refine b_ret ?_
  refine t_ret ?_
  have hret : calqueref08_has_R u m0 S true a w := ⟨ok, E.d, ⟨rv_t E rfl, trivial⟩⟩
  obtain rfl := Option.some.inj hF
  exact step_o (by nofun) (sr ⟨rfl, hret⟩)

def calqueref08_Mods_R (u : World) (m0 : Mem) (S : Segs) (r : (List (Int))) (a : Act) (w : World) : Prop :=
  ∃ m1 v0, m0.le m1 ∧ Ok u m1 S w ∧ a.defers = [] ∧ RVs Tryz.prog a w [.t 2 v0] ∧ (pL 1 (pI .i64)) m1 [v0] r
set_option maxHeartbeats 4000000 in
set_option maxRecDepth 100000 in
theorem calqueref08_Mods_w {u : World} {m0 : Mem} {S : Segs} {w : World} (N : Nat) (operand_0 : Int) (roperand_0 : InR .i64 operand_0) {r : (List (Int))} (hF : calqueref08_Mods N operand_0 = some r) (hG : Glob u) (ok : Ok u m0 S w) :
    Calls Tryz.prog 58 [Value.int .i64 operand_0].toArray w fun e w' => ∃ m1 v0, e = .returned v0 ∧ m0.le m1 ∧ Ok u m1 S w' ∧ (pL 1 (pI .i64)) m1 [v0] r := by
  have le_m0 := Mem.le.refl m0
  unfold calqueref08_Mods at hF
  have fin : ∀ a w, calqueref08_Mods_R u m0 S r a w → bodyPost Tryz.prog Tryz.f58 (fun e w' => ∃ m1 v0, e = .returned v0 ∧ m0.le m1 ∧ Ok u m1 S w' ∧ (pL 1 (pI .i64)) m1 [v0] r) .ret a w := by
    intro a w h
    obtain ⟨m1, v0, hle, ok, hd, hrv, h0⟩ := h
    exact c_ret2 [.t 2 v0] hd rfl hrv ⟨m1, v0, rfl, hle, ok, h0⟩
  refine enter Tryz.func58 rfl rfl rfl fun a E => ?_
  refine wp_seq ?_
  refine c_region ?_
  refine l_val E ok (y_assign rfl) rfl rfl fun a E => ?_
  refine wpList_nil ?_
  refine t_norm ?_
  refine wp_seq ?_
  refine wp_seq ?_
  refine c_region ?_
  refine l_val E ok (y_move rfl) rfl rfl fun a E => ?_
  refine wpList_nil ?_
  refine t_norm ?_
  refine wp_block ?_
  refine wp_seq ?_
  refine wp_seq ?_
  refine c_region ?_
  refine l_val E ok (y_eql rfl rfl) rfl rfl fun a E => ?_
  refine l_val E ok (y_assign rfl) rfl rfl fun a E => ?_
  refine wpList_nil ?_
  refine t_norm ?_
  obtain ⟨o1, hJ, hF⟩ := bnd hF
  refine c_mono (Q' := fun e a w => e = .normal ∧ Ok u m0 (S) w ∧ Env 12 a [(3, (Value.int .i64 operand_0)), (4, (Value.bool o1))]) ?_ ?_
  · replace hF := hJ
    clear hJ
    refine c_if E rfl (fun hc2 => ?_) (fun hc2 => ?_)
    · replace hF := cond_t hc2 hF
      refine wp_skip ?_
      obtain rfl := Option.some.inj hF
      exact ⟨rfl, ⟨ok, E.keep [3, 4]⟩⟩
    replace hF := cond_f hc2 hF
    refine c_region ?_
    refine l_val E ok (y_eql rfl rfl) rfl rfl fun a E => ?_
    refine l_val E ok (y_assign rfl) rfl rfl fun a E => ?_
    refine wpList_nil ?_
    obtain rfl := Option.some.inj hF
    exact ⟨rfl, ⟨ok, E.keep [3, 4]⟩⟩
  clear hJ
  intro e a w hO
  obtain ⟨rfl, ok, E⟩ := hO
  refine t_norm ?_
  refine c_if E rfl (fun hc3 => ?_) (fun hc3 => ?_)
  · replace hF := cond_t hc3 hF
    refine wp_seq ?_
    refine c_region ?_
    refine l_slit (R := (pI .i64)) (xo := [.const (Value.int .i64 2), .const (Value.int .i64 3), .const (Value.int .i64 4), .const (Value.int .i64 5), .const (Value.int .i64 6), .const (Value.int .i64 10), .const (Value.int .i64 20), .const (Value.int .i64 25), .const (Value.int .i64 50), .const (Value.int .i64 100)]) (xs := ([2, 3, 4, 5, 6, 10, 20, 25, 50, 100] : List (Int))) E ok sl_79 zero_3 rfl ⟨⟨_, rfl, rfl, (pI_mk (show InR .i64 (2) by decide))⟩, ⟨_, rfl, rfl, (pI_mk (show InR .i64 (3) by decide))⟩, ⟨_, rfl, rfl, (pI_mk (show InR .i64 (4) by decide))⟩, ⟨_, rfl, rfl, (pI_mk (show InR .i64 (5) by decide))⟩, ⟨_, rfl, rfl, (pI_mk (show InR .i64 (6) by decide))⟩, ⟨_, rfl, rfl, (pI_mk (show InR .i64 (10) by decide))⟩, ⟨_, rfl, rfl, (pI_mk (show InR .i64 (20) by decide))⟩, ⟨_, rfl, rfl, (pI_mk (show InR .i64 (25) by decide))⟩, ⟨_, rfl, rfl, (pI_mk (show InR .i64 (50) by decide))⟩, ⟨_, rfl, rfl, (pI_mk (show InR .i64 (100) by decide))⟩, trivial⟩ rfl rfl rfl rfl fun c4 M5 a w E ok h6 => ?_
    refine l_val E ok (y_assign rfl) rfl rfl fun a E => ?_
    refine wpList_nil ?_
    refine t_norm ?_
    refine wp_ret ?_
    refine b_ret ?_
    refine t_ret ?_
    obtain ⟨m7, hle, ok, hfz⟩ := (ok.frs 0 rfl).freeze
    have h8 := ORow.froz (mI .i64) h6 hle hfz (by decide)
    have le_m0 := le_m0.trans hle
    have hret : calqueref08_Mods_R u m0 S ([2, 3, 4, 5, 6, 10, 20, 25, 50, 100] : List (Int)) a w := ⟨m7, c4, le_m0, ok, E.d, ⟨rv_t E rfl, trivial⟩, h8⟩
    obtain rfl := Option.some.inj hF
    exact fin _ _ hret
  replace hF := cond_f hc3 hF
  refine wp_seq ?_
  refine wp_seq ?_
  refine c_region ?_
  refine l_val E ok (y_eql rfl rfl) rfl rfl fun a E => ?_
  refine l_val E ok (y_assign rfl) rfl rfl fun a E => ?_
  refine wpList_nil ?_
  refine t_norm ?_
  obtain ⟨o9, hJ, hF⟩ := bnd hF
  refine c_mono (Q' := fun e a w => e = .normal ∧ Ok u m0 (S) w ∧ Env 12 a [(8, (Value.bool o9))]) ?_ ?_
  · replace hF := hJ
    clear hJ
    refine c_if E rfl (fun hc10 => ?_) (fun hc10 => ?_)
    · replace hF := cond_t hc10 hF
      refine wp_skip ?_
      obtain rfl := Option.some.inj hF
      exact ⟨rfl, ⟨ok, E.keep [8]⟩⟩
    replace hF := cond_f hc10 hF
    refine c_region ?_
    refine l_val E ok (y_eql rfl rfl) rfl rfl fun a E => ?_
    refine l_val E ok (y_assign rfl) rfl rfl fun a E => ?_
    refine wpList_nil ?_
    obtain rfl := Option.some.inj hF
    exact ⟨rfl, ⟨ok, E.keep [8]⟩⟩
  clear hJ
  intro e a w hO
  obtain ⟨rfl, ok, E⟩ := hO
  refine t_norm ?_
  refine c_if E rfl (fun hc11 => ?_) (fun hc11 => ?_)
  rotate_left
  · replace hF := cond_f hc11 hF
    refine wp_skip ?_
    refine b_norm ?_
    refine t_norm ?_
    refine wp_seq ?_
    refine c_region ?_
    refine l_val E ok (y_assign rfl) rfl rfl fun a E => ?_
    refine wpList_nil ?_
    refine t_norm ?_
    refine wp_ret ?_
    have hret : calqueref08_Mods_R u m0 S ([]) a w := ⟨m0, (.slice none 0 0), le_m0, ok, E.d, ⟨rv_t E rfl, trivial⟩, pL_nil⟩
    obtain rfl := Option.some.inj hF
    exact fin _ _ hret
  replace hF := cond_t hc11 hF
  refine wp_seq ?_
  refine c_region ?_
  refine l_slit (R := (pI .i64)) (xo := [.const (Value.int .i64 10), .const (Value.int .i64 100)]) (xs := ([10, 100] : List (Int))) E ok sl_79 zero_3 rfl ⟨⟨_, rfl, rfl, (pI_mk (show InR .i64 (10) by decide))⟩, ⟨_, rfl, rfl, (pI_mk (show InR .i64 (100) by decide))⟩, trivial⟩ rfl rfl rfl rfl fun c12 M13 a w E ok h14 => ?_
  refine l_val E ok (y_assign rfl) rfl rfl fun a E => ?_
  refine wpList_nil ?_
  refine t_norm ?_
  refine wp_ret ?_
  refine b_ret ?_
  refine t_ret ?_
  obtain ⟨m15, hle, ok, hfz⟩ := (ok.frs 0 rfl).freeze
  have h16 := ORow.froz (mI .i64) h14 hle hfz (by decide)
  have le_m0 := le_m0.trans hle
  have hret : calqueref08_Mods_R u m0 S ([10, 100] : List (Int)) a w := ⟨m15, c12, le_m0, ok, E.d, ⟨rv_t E rfl, trivial⟩, h16⟩
  obtain rfl := Option.some.inj hF
  exact fin _ _ hret

def calqueref08_Bound_R (u : World) (m0 : Mem) (S : Segs) (r : Int) (a : Act) (w : World) : Prop :=
  Ok u m0 S w ∧ a.defers = [] ∧ RVs Tryz.prog a w [.t 2 (.int .i64 r)] ∧ InR .i64 r
set_option maxHeartbeats 4000000 in
set_option maxRecDepth 100000 in
theorem calqueref08_Bound_w {u : World} {m0 : Mem} {S : Segs} {w : World} (N : Nat) (operand_0 : Int) (roperand_0 : InR .i64 operand_0) {r : Int} (hF : calqueref08_Bound N operand_0 = some r) (hG : Glob u) (ok : Ok u m0 S w) :
    Calls Tryz.prog 59 [Value.int .i64 operand_0].toArray w fun e w' => (e = .returned (.int .i64 r) ∧ Ok u m0 S w') ∧ InR .i64 r := by
  have hb0 := ok.base
  have le_m0 := Mem.le.refl m0
  unfold calqueref08_Bound at hF
  have fin : ∀ a w, calqueref08_Bound_R u m0 S r a w → bodyPost Tryz.prog Tryz.f59 (fun e w' => (e = .returned (.int .i64 r) ∧ Ok u m0 S w') ∧ InR .i64 r) .ret a w := by
    intro a w h
    obtain ⟨ok, hd, hrv, h0⟩ := h
    exact c_ret2 [.t 2 (.int .i64 r)] hd rfl hrv ⟨⟨rfl, ok⟩, h0⟩
  refine enter Tryz.func59 rfl rfl rfl fun a E => ?_
  refine wp_seq ?_
  refine c_region ?_
  refine l_val E ok (y_assign rfl) rfl rfl fun a E => ?_
  refine wpList_nil ?_
  refine t_norm ?_
  refine wp_seq ?_
  refine wp_seq ?_
  refine c_region ?_
  refine l_val E ok (y_move rfl) rfl rfl fun a E => ?_
  refine l_val E ok (y_eql rfl rfl) rfl rfl fun a E => ?_
  refine l_val E ok (y_move rfl) rfl rfl fun a E => ?_
  refine bsplit (operand_0 == 3) (fun hc1 => ?_) (fun hc1 => ?_)
  · replace hF := cond_t hc1 hF
    replace E := E.upd 5 hc1 rfl
    refine l_skip E rfl rfl fun a E => ?_
    refine l_skip E rfl rfl fun a E => ?_
    refine l_val E ok (y_pickT rfl rfl) rfl rfl fun a E => ?_
    refine wpList_nil ?_
    refine t_norm ?_
    refine c_if E rfl (fun _ => ?_) (fun h => by cases h)
    refine wp_seq ?_
    refine c_region ?_
    refine l_val E ok (y_assign rfl) rfl rfl fun a E => ?_
    refine wpList_nil ?_
    refine t_norm ?_
    refine wp_ret ?_
    refine t_ret ?_
    have hret : calqueref08_Bound_R u m0 S 6 a w := ⟨ok, E.d, ⟨rv_t E rfl, trivial⟩, (show InR .i64 (6) by decide)⟩
    obtain rfl := Option.some.inj hF
    exact fin _ _ hret
  replace hF := cond_f hc1 hF
  replace E := E.upd 5 hc1 rfl
  refine l_val E ok (y_move rfl) rfl rfl fun a E => ?_
  refine l_val E ok (y_eql rfl rfl) rfl rfl fun a E => ?_
  refine l_val E ok (y_pickF rfl rfl) rfl rfl fun a E => ?_
  refine wpList_nil ?_
  refine t_norm ?_
  refine c_if E rfl (fun hc2 => ?_) (fun hc2 => ?_)
  · replace hF := cond_t hc2 hF
    refine wp_seq ?_
    refine c_region ?_
    refine l_val E ok (y_assign rfl) rfl rfl fun a E => ?_
    refine wpList_nil ?_
    refine t_norm ?_
    refine wp_ret ?_
    refine t_ret ?_
    have hret : calqueref08_Bound_R u m0 S 6 a w := ⟨ok, E.d, ⟨rv_t E rfl, trivial⟩, (show InR .i64 (6) by decide)⟩
    obtain rfl := Option.some.inj hF
    exact fin _ _ hret
  replace hF := cond_f hc2 hF
  refine wp_skip ?_
  refine t_norm ?_
  refine wp_seq ?_
  refine c_region ?_
  refine l_val E ok (y_assign rfl) rfl rfl fun a E => ?_
  refine wpList_nil ?_
  refine t_norm ?_
  refine wp_ret ?_
  have hret : calqueref08_Bound_R u m0 S 100 a w := ⟨ok, E.d, ⟨rv_t E rfl, trivial⟩, (show InR .i64 (100) by decide)⟩
  obtain rfl := Option.some.inj hF
  exact fin _ _ hret

def calqueref08_proper_R (u : World) (m0 : Mem) (S : Segs) (r : Bool) (a : Act) (w : World) : Prop :=
  Ok u m0 S w ∧ a.defers = [] ∧ RVs Tryz.prog a w [.t 2 (.bool r)]
set_option maxHeartbeats 4000000 in
set_option maxRecDepth 100000 in
theorem calqueref08_proper_w {u : World} {m0 : Mem} {S : Segs} {w : World} (N : Nat) (vr_0 : List Value) (r_0 : Relation) (hr_0 : pRelation m0 vr_0 r_0) {r : Bool} (hF : calqueref08_proper N r_0 = some r) (hG : Glob u) (ok : Ok u m0 S w) :
    Calls Tryz.prog 31 [.agg vr_0.toArray].toArray w fun e w' => (e = .returned (.bool r) ∧ Ok u m0 S w') := by
  obtain ⟨c3, rfl, r1, r2, h4⟩ := hr_0
  have hb0 := ok.base
  have le_m0 := Mem.le.refl m0
  unfold calqueref08_proper at hF
  have fin : ∀ a w, calqueref08_proper_R u m0 S r a w → bodyPost Tryz.prog Tryz.f31 (fun e w' => (e = .returned (.bool r) ∧ Ok u m0 S w')) .ret a w := by
    intro a w h
    obtain ⟨ok, hd, hrv⟩ := h
    exact c_ret2 [.t 2 (.bool r)] hd rfl hrv ⟨rfl, ok⟩
  refine enter Tryz.func31 rfl rfl rfl fun a E => ?_
  refine wp_seq ?_
  refine c_region ?_
  refine l_box E ok rfl rfl rfl fun b5 a w E ok => ?_
  refine l_val E ok (y_assign rfl) rfl rfl fun a E => ?_
  refine wpList_nil ?_
  refine t_norm ?_
  refine wp_seq ?_
  refine wp_seq ?_
  obtain ⟨o6, hJ, hF⟩ := bnd hF
  refine c_mono (Q' := fun e a w => e = .normal ∧ ∃ m7, m0.le m7 ∧ Ok u m7 ([(b5, Obj.cells [(Value.int .i64 r_0.Operand), (Value.int .i64 r_0.Mod), (Value.bool r_0.Not), c3].toArray 33 (0, 0))] :: S) w ∧ Env 69 a [(1, (Value.pointer (some ⟨b5, 0, none⟩))), (38, (Value.bool o6))]) ?_ ?_
  rotate_left
  · as_aux_lemma =>
      clear hJ
      intro e a w hO
      obtain ⟨rfl, m30, hle, ok, E⟩ := hO
      have le_m0 := le_m0.trans hle
      have h4 := (mL mSpan).up hle h4
      refine t_norm ?_
      refine c_if E rfl (fun hc31 => ?_) (fun hc31 => ?_)
      · replace hF := cond_t hc31 hF
        refine wp_seq ?_
        refine c_region ?_
        refine l_val E ok (y_assign rfl) rfl rfl fun a E => ?_
        refine wpList_nil ?_
        refine t_norm ?_
        refine wp_ret ?_
        refine t_ret ?_
        have hret : calqueref08_proper_R u m0 S false a w := ⟨(ok.drop).down hb0 le_m0, E.d, ⟨rv_t E rfl, trivial⟩⟩
        obtain rfl := Option.some.inj hF
        exact fin _ _ hret
      replace hF := cond_f hc31 hF
      refine wp_skip ?_
      refine t_norm ?_
      refine wp_seq ?_
      refine wp_seq ?_
      refine c_region ?_
      refine l_val E ok (y_assign rfl) rfl rfl fun a E => ?_
      refine wpList_nil ?_
      refine t_norm ?_
      refine wp_block ?_
      obtain ⟨o33, hL, hF⟩ := bnd hF
      refine c_loop _ (fun (s : Int) a w => Ok u m30 ([(b5, Obj.cells [(Value.int .i64 r_0.Operand), (Value.int .i64 r_0.Mod), (Value.bool r_0.Not), c3].toArray 33 (0, 0))] :: S) w ∧ Env 69 a [(1, (Value.pointer (some ⟨b5, 0, none⟩))), (3, (Value.int .i64 s))] ∧ InR .i64 s) (fun (b : (Unit ⊕ Bool)) e a w => (Sum.elim (fun b56 => e = (.exit 0) ∧ Ok u m30 ([(b5, Obj.cells [(Value.int .i64 r_0.Operand), (Value.int .i64 r_0.Mod), (Value.bool r_0.Not), c3].toArray 33 (0, 0))] :: S) w ∧ Env 69 a []) (fun b57 => e = .ret ∧ calqueref08_proper_R u m0 S b57 a w)) b) ?_ ?_ N _ a w hL ⟨ok, E.keep [1, 3], (show InR .i64 (0) by decide)⟩
      rotate_left
      · intro e a w _ hO
        rcases o33 with o33 | o33
        rotate_left
        · replace hF := elim_r hF
          obtain ⟨rfl, hret⟩ := hO
          refine b_ret ?_
          refine t_ret ?_
          obtain rfl := Option.some.inj hF
          exact fin _ _ hret
        replace hF := elim_l hF
        obtain ⟨rfl, ok, E⟩ := hO
        refine b_hit ?_
        refine t_norm ?_
        refine wp_seq ?_
        refine c_region ?_
        refine l_val E ok (y_assign rfl) rfl rfl fun a E => ?_
        refine wpList_nil ?_
        refine t_norm ?_
        refine wp_ret ?_
        have hret : calqueref08_proper_R u m0 S true a w := ⟨(ok.drop).down hb0 le_m0, E.d, ⟨rv_t E rfl, trivial⟩⟩
        obtain rfl := Option.some.inj hF
        exact fin _ _ hret
      rintro i_35 a w r ⟨ok, E, r36⟩ hF
      replace hF : calqueref08_proper_b1 N r_0 i_35 = some r := hF
      unfold calqueref08_proper_b1 at hF
      refine wp_seq ?_
      refine wp_seq ?_
      refine c_region ?_
      refine l_val E ok (y_move rfl) rfl rfl fun a E => ?_
      refine l_val E ok (y_fieldAddr fo_33_3 rfl) rfl rfl fun a E => ?_
      refine l_val E ok (y_load one_31 rfl (Holds.own 0 rfl rfl)) rfl rfl fun a E => ?_
      refine l_val E ok (y_lenL sl_31 h4 rfl) rfl rfl fun a E => ?_
      refine l_val E ok (y_lss rfl rfl) rfl rfl fun a E => ?_
      refine wpList_nil ?_
      refine t_norm ?_
      refine c_if E rfl (fun hc37 => ?_) (fun hc37 => ?_)
      rotate_left
      · replace hF := cond_f hc37 hF
        refine wp_exit ?_
        refine t_exit ?_
        obtain rfl := Option.some.inj hF
        exact step_o (by nofun) (sl ⟨rfl, ⟨ok, E.keep []⟩⟩)
      replace hF := cond_t hc37 hF
      refine wp_skip ?_
      refine t_norm ?_
      refine wp_seq ?_
      refine wp_block ?_
      refine wp_seq ?_
      refine c_region ?_
      refine l_val E ok (y_fieldAddr fo_33_3 rfl) rfl rfl fun a E => ?_
      refine l_val E ok (y_load one_31 rfl (Holds.own 0 rfl rfl)) rfl rfl fun a E => ?_
      refine l_val E ok (y_move rfl) rfl rfl fun a E => ?_
      obtain ⟨x38, e39, hF⟩ := bnd hF
      obtain ⟨b40, o41, es42, hl43, rr44, at45, yy46⟩ := idxAt sl_31 h4 e39 (P := Tryz.prog) (X := .tmp 47) (I := .tmp 48) (kd := .i64) (ev_of E rfl) (ev_of E rfl)
      obtain ⟨rfl, r47, r48⟩ := rr44
      refine l_val E ok (yy46 _ _) rfl rfl fun a E => ?_
      refine l_val E ok (y_loadAgg (cs := [(Value.int .i64 x38.From), (Value.int .i64 x38.To)]) agg_37 rfl rfl (Holds.ro at45)) rfl rfl fun a E => ?_
      refine l_alloc E ok zero_37 rfl rfl fun b49 a w E ok => ?_
      refine l_storeB E ok 0 rfl rfl rfl inf_37 rfl rfl ⟨rfl, rfl, trivial⟩ rfl rfl fun w ok => ?_
      refine wpList_nil ?_
      refine t_norm ?_
      refine wp_seq ?_
      refine c_draw (by kernel_rfl) (by kernel_rfl) ok ?_
      refine q_val E (y_fieldAddr fo_37_0 rfl) rfl rfl fun a E => ?_
      refine q_val E (y_load one_3 rfl (Holds.own 0 rfl rfl)) rfl rfl fun a E => ?_
      refine q_val E (y_lss rfl rfl) rfl rfl fun a E => ?_
      refine q_val E (y_move rfl) rfl rfl fun a E => ?_
      refine bsplit (decide (x38.From < 0)) (fun hc50 => ?_) (fun hc50 => ?_)
      · replace hF := cond_t hc50 hF
        replace E := E.upd 54 hc50 rfl
        refine q_skip E rfl rfl fun a E => ?_
        refine q_skip E rfl rfl fun a E => ?_
        refine q_skip E rfl rfl fun a E => ?_
        refine q_skip E rfl rfl fun a E => ?_
        refine q_skip E rfl rfl fun a E => ?_
        refine q_val E (y_pickT rfl rfl) rfl rfl fun a E => ?_
        refine q_val E (y_move rfl) rfl rfl fun a E => ?_
        refine q_skip E rfl rfl fun a E => ?_
        refine q_skip E rfl rfl fun a E => ?_
        refine q_skip E rfl rfl fun a E => ?_
        refine q_skip E rfl rfl fun a E => ?_
        refine q_skip E rfl rfl fun a E => ?_
        refine q_skip E rfl rfl fun a E => ?_
        refine q_val E (y_pickT rfl rfl) rfl rfl fun a E => ?_
        refine wpQuiet_nil ?_
        intro w ok
        refine t_norm ?_
        refine c_if E rfl (fun _ => ?_) (fun h => by cases h)
        refine wp_seq ?_
        refine c_region ?_
        refine l_val E ok (y_assign rfl) rfl rfl fun a E => ?_
        refine wpList_nil ?_
        refine t_norm ?_
        refine wp_ret ?_
        refine b_ret ?_
        refine t_ret ?_
        have hret : calqueref08_proper_R u m0 S false a w := ⟨(ok.drop.drop).down hb0 le_m0, E.d, ⟨rv_t E rfl, trivial⟩⟩
        obtain rfl := Option.some.inj hF
        exact step_o (by nofun) (sr ⟨rfl, hret⟩)
      replace hF := cond_f hc50 hF
      replace E := E.upd 54 hc50 rfl
      refine q_val E (y_fieldAddr fo_37_0 rfl) rfl rfl fun a E => ?_
      refine q_val E (y_load one_3 rfl (Holds.own 0 rfl rfl)) rfl rfl fun a E => ?_
      refine q_val E (y_fieldAddr fo_37_1 rfl) rfl rfl fun a E => ?_
      refine q_val E (y_load one_3 rfl (Holds.own 0 rfl rfl)) rfl rfl fun a E => ?_
      refine q_val E (y_gtr rfl rfl) rfl rfl fun a E => ?_
      refine q_val E (y_pickF rfl rfl) rfl rfl fun a E => ?_
      refine q_val E (y_move rfl) rfl rfl fun a E => ?_
      refine bsplit (decide (x38.From > x38.To)) (fun hc51 => ?_) (fun hc51 => ?_)
      · replace hF := cond_t hc51 hF
        replace E := E.upd 61 hc51 rfl
        refine q_skip E rfl rfl fun a E => ?_
        refine q_skip E rfl rfl fun a E => ?_
        refine q_skip E rfl rfl fun a E => ?_
        refine q_skip E rfl rfl fun a E => ?_
        refine q_skip E rfl rfl fun a E => ?_
        refine q_skip E rfl rfl fun a E => ?_
        refine q_val E (y_pickT rfl rfl) rfl rfl fun a E => ?_
        refine wpQuiet_nil ?_
        intro w ok
        refine t_norm ?_
        refine c_if E rfl (fun _ => ?_) (fun h => by cases h)
        refine wp_seq ?_
        refine c_region ?_
        refine l_val E ok (y_assign rfl) rfl rfl fun a E => ?_
        refine wpList_nil ?_
        refine t_norm ?_
        refine wp_ret ?_
        refine b_ret ?_
        refine t_ret ?_
        have hret : calqueref08_proper_R u m0 S false a w := ⟨(ok.drop.drop).down hb0 le_m0, E.d, ⟨rv_t E rfl, trivial⟩⟩
        obtain rfl := Option.some.inj hF
        exact step_o (by nofun) (sr ⟨rfl, hret⟩)
      replace hF := cond_f hc51 hF
      replace E := E.upd 61 hc51 rfl
      refine q_val E (y_fieldAddr fo_37_1 rfl) rfl rfl fun a E => ?_
      refine q_val E (y_load one_3 rfl (Holds.own 0 rfl rfl)) rfl rfl fun a E => ?_
      refine q_val E (y_fieldAddr fo_33_0 rfl) rfl rfl fun a E => ?_
      refine q_val E (y_load one_3 rfl (Holds.own 1 rfl rfl)) rfl rfl fun a E => ?_
      obtain ⟨r52, e53, hF⟩ := bnd hF
      obtain ⟨_, _, ⟨_, _⟩, r54⟩ := Go.X.Calls.get (calqueref08_Bound_w N r_0.Operand r1 e53 hG ok)
      refine q_call E go_59 rfl (fun w ok => (calqueref08_Bound_w N r_0.Operand r1 e53 hG ok).mono (fun _ _ h => h.1)) rfl rfl fun a E => ?_
      refine q_val E (y_gtr rfl rfl) rfl rfl fun a E => ?_
      refine q_val E (y_pickF rfl rfl) rfl rfl fun a E => ?_
      refine wpQuiet_nil ?_
      intro w ok
      refine t_norm ?_
      refine c_if E rfl (fun hc55 => ?_) (fun hc55 => ?_)
      rotate_left
      · replace hF := cond_f hc55 hF
        refine wp_skip ?_
        refine b_norm ?_
        refine t_norm ?_
        refine c_region ?_
        refine l_val E ok (y_move rfl) rfl rfl fun a E => ?_
        refine l_val E ok (y_add rfl rfl (InR.inc r36 (pL_InR h4) hc37)) rfl rfl fun a E => ?_
        refine l_val E ok (y_assign rfl) rfl rfl fun a E => ?_
        refine wpList_nil ?_
        obtain rfl := Option.some.inj hF
        exact step_n ⟨(ok.pk 2 [1] rfl (by decide)), E.keep [1, 3], (InR.inc r36 (pL_InR h4) hc37)⟩
      replace hF := cond_t hc55 hF
      refine wp_seq ?_
      refine c_region ?_
      refine l_val E ok (y_assign rfl) rfl rfl fun a E => ?_
      refine wpList_nil ?_
      refine t_norm ?_
      refine wp_ret ?_
      refine b_ret ?_
      refine t_ret ?_
      have hret : calqueref08_proper_R u m0 S false a w := ⟨(ok.drop.drop).down hb0 le_m0, E.d, ⟨rv_t E rfl, trivial⟩⟩
      obtain rfl := Option.some.inj hF
      exact step_o (by nofun) (sr ⟨rfl, hret⟩)
  replace hF := hJ
  clear hJ
  refine bsplit (decide (r_0.Operand < 1)) (fun hc8 => ?_) (fun hc8 => ?_)
  · replace hF := cond_t hc8 hF
    obtain rfl := Option.some.inj hF
    refine k_begin [] (Cls u m0 ([(b5, Obj.cells [(Value.int .i64 r_0.Operand), (Value.int .i64 r_0.Mod), (Value.bool r_0.Not), c3].toArray 33 (0, 0))] :: [])) (Cls u m0 ([(b5, Obj.cells [(Value.int .i64 r_0.Operand), (Value.int .i64 r_0.Mod), (Value.bool r_0.Not), c3].toArray 33 (0, 0))] :: [])) (by kernel_rfl) ?_
    intro w hw
    replace ok := okdrew ok hw
    clear hw
    have h4_o := h4
    refine k_next (cl1 ⟨m0, _, le_m0, ok, ⟨memAt 0 rfl, trivial⟩⟩ ⟨m0, _, le_m0, ok, ⟨memAt 0 rfl, trivial⟩⟩) fun hT => ?_
    refine k_take 0 E rfl (by kernel_rfl) nP hT (y_fieldAddr fo_33_0 rfl) rfl rfl fun a E => ?_
    refine k_take 1 E rfl (by kernel_rfl) nP hT (y_load one_3 rfl (Holds.cown 0 rfl rfl)) rfl rfl fun a E => ?_
    refine k_take 2 E rfl (by kernel_rfl) nP hT (y_lss rfl rfl) rfl rfl fun a E => ?_
    refine k_take 3 E rfl (by kernel_rfl) nP hT (y_move rfl) rfl rfl fun a E => ?_
    replace E := E.upd 8 hc8 rfl
    refine k_skip 4 false E rfl (by kernel_rfl) nP hT rfl rfl fun a E => ?_
    refine k_skip 5 false E rfl (by kernel_rfl) nP hT rfl rfl fun a E => ?_
    refine k_skip 6 false E rfl (by kernel_rfl) nP hT rfl rfl fun a E => ?_
    refine k_take 7 E rfl (by kernel_rfl) nP hT (y_pickT rfl rfl) rfl rfl fun a E => ?_
    refine k_take 8 E rfl (by kernel_rfl) nP hT (y_move rfl) rfl rfl fun a E => ?_
    refine k_skip 9 false E rfl (by kernel_rfl) nP hT rfl rfl fun a E => ?_
    refine k_skip 10 false E rfl (by kernel_rfl) nP hT rfl rfl fun a E => ?_
    refine k_skip 11 false E rfl (by kernel_rfl) nP hT rfl rfl fun a E => ?_
    refine k_skip 12 false E rfl (by kernel_rfl) nP hT rfl rfl fun a E => ?_
    refine k_skip 13 false E rfl (by kernel_rfl) nP hT rfl rfl fun a E => ?_
    refine k_skip 14 false E rfl (by kernel_rfl) nP hT rfl rfl fun a E => ?_
    refine k_skip 15 false E rfl (by kernel_rfl) nP hT rfl rfl fun a E => ?_
    refine k_skip 16 false E rfl (by kernel_rfl) nP hT rfl rfl fun a E => ?_
    refine k_skip 17 false E rfl (by kernel_rfl) nP hT rfl rfl fun a E => ?_
    refine k_skip 18 false E rfl (by kernel_rfl) nP hT rfl rfl fun a E => ?_
    refine k_skip 19 false E rfl (by kernel_rfl) nP hT rfl rfl fun a E => ?_
    refine k_skip 20 false E rfl (by kernel_rfl) nP hT rfl rfl fun a E => ?_
    refine k_take 21 E rfl (by kernel_rfl) nP hT (y_pickT rfl rfl) rfl rfl fun a E => ?_
    refine k_take 22 E rfl (by kernel_rfl) nP hT (y_move rfl) rfl rfl fun a E => ?_
    refine k_skip 23 false E rfl (by kernel_rfl) nP hT rfl rfl fun a E => ?_
    refine k_skip 24 false E rfl (by kernel_rfl) nP hT rfl rfl fun a E => ?_
    refine k_skip 25 false E rfl (by kernel_rfl) nP hT rfl rfl fun a E => ?_
    refine k_skip 26 false E rfl (by kernel_rfl) nP hT rfl rfl fun a E => ?_
    refine k_take 27 E rfl (by kernel_rfl) nP hT (y_pickT rfl rfl) rfl rfl fun a E => ?_
    refine k_take 28 E rfl (by kernel_rfl) nP hT (y_move rfl) rfl rfl fun a E => ?_
    refine k_skip 29 false E rfl (by kernel_rfl) nP hT rfl rfl fun a E => ?_
    refine k_skip 30 false E rfl (by kernel_rfl) nP hT rfl rfl fun a E => ?_
    refine k_skip 31 false E rfl (by kernel_rfl) nP hT rfl rfl fun a E => ?_
    refine k_skip 32 false E rfl (by kernel_rfl) nP hT rfl rfl fun a E => ?_
    refine k_take 33 E rfl (by kernel_rfl) nP hT (y_pickT rfl rfl) rfl rfl fun a E => ?_
    refine k_done (by kernel_rfl) ?_
    exact ⟨rfl, ⟨m0, le_m0, ok, E.keep [1, 38]⟩⟩
  replace hF := cond_f hc8 hF
  refine bsplit (decide (r_0.Operand > 6)) (fun hc9 => ?_) (fun hc9 => ?_)
  · replace hF := cond_t hc9 hF
    obtain rfl := Option.some.inj hF
    refine k_begin [] (Cls u m0 ([(b5, Obj.cells [(Value.int .i64 r_0.Operand), (Value.int .i64 r_0.Mod), (Value.bool r_0.Not), c3].toArray 33 (0, 0))] :: [])) (Cls u m0 ([(b5, Obj.cells [(Value.int .i64 r_0.Operand), (Value.int .i64 r_0.Mod), (Value.bool r_0.Not), c3].toArray 33 (0, 0))] :: [])) (by kernel_rfl) ?_
    intro w hw
    replace ok := okdrew ok hw
    clear hw
    have h4_o := h4
    refine k_next (cl1 ⟨m0, _, le_m0, ok, ⟨memAt 0 rfl, trivial⟩⟩ ⟨m0, _, le_m0, ok, ⟨memAt 0 rfl, trivial⟩⟩) fun hT => ?_
    refine k_take 0 E rfl (by kernel_rfl) nP hT (y_fieldAddr fo_33_0 rfl) rfl rfl fun a E => ?_
    refine k_take 1 E rfl (by kernel_rfl) nP hT (y_load one_3 rfl (Holds.cown 0 rfl rfl)) rfl rfl fun a E => ?_
    refine k_take 2 E rfl (by kernel_rfl) nP hT (y_lss rfl rfl) rfl rfl fun a E => ?_
    refine k_take 3 E rfl (by kernel_rfl) nP hT (y_move rfl) rfl rfl fun a E => ?_
    replace E := E.upd 8 hc8 rfl
    refine k_take 4 E rfl (by kernel_rfl) nP hT (y_fieldAddr fo_33_0 rfl) rfl rfl fun a E => ?_
    refine k_take 5 E rfl (by kernel_rfl) nP hT (y_load one_3 rfl (Holds.cown 0 rfl rfl)) rfl rfl fun a E => ?_
    refine k_take 6 E rfl (by kernel_rfl) nP hT (y_gtr rfl rfl) rfl rfl fun a E => ?_
    refine k_take 7 E rfl (by kernel_rfl) nP hT (y_pickF rfl rfl) rfl rfl fun a E => ?_
    refine k_take 8 E rfl (by kernel_rfl) nP hT (y_move rfl) rfl rfl fun a E => ?_
    replace E := E.upd 13 hc9 rfl
    refine k_skip 9 false E rfl (by kernel_rfl) nP hT rfl rfl fun a E => ?_
    refine k_skip 10 false E rfl (by kernel_rfl) nP hT rfl rfl fun a E => ?_
    refine k_skip 11 false E rfl (by kernel_rfl) nP hT rfl rfl fun a E => ?_
    refine k_skip 12 false E rfl (by kernel_rfl) nP hT rfl rfl fun a E => ?_
    refine k_skip 13 false E rfl (by kernel_rfl) nP hT rfl rfl fun a E => ?_
    refine k_skip 14 false E rfl (by kernel_rfl) nP hT rfl rfl fun a E => ?_
    refine k_skip 15 false E rfl (by kernel_rfl) nP hT rfl rfl fun a E => ?_
    refine k_skip 16 false E rfl (by kernel_rfl) nP hT rfl rfl fun a E => ?_
    refine k_skip 17 false E rfl (by kernel_rfl) nP hT rfl rfl fun a E => ?_
    refine k_skip 18 false E rfl (by kernel_rfl) nP hT rfl rfl fun a E => ?_
    refine k_skip 19 false E rfl (by kernel_rfl) nP hT rfl rfl fun a E => ?_
    refine k_skip 20 false E rfl (by kernel_rfl) nP hT rfl rfl fun a E => ?_
    refine k_take 21 E rfl (by kernel_rfl) nP hT (y_pickT rfl rfl) rfl rfl fun a E => ?_
    refine k_take 22 E rfl (by kernel_rfl) nP hT (y_move rfl) rfl rfl fun a E => ?_
    refine k_skip 23 false E rfl (by kernel_rfl) nP hT rfl rfl fun a E => ?_
    refine k_skip 24 false E rfl (by kernel_rfl) nP hT rfl rfl fun a E => ?_
    refine k_skip 25 false E rfl (by kernel_rfl) nP hT rfl rfl fun a E => ?_
    refine k_skip 26 false E rfl (by kernel_rfl) nP hT rfl rfl fun a E => ?_
    refine k_take 27 E rfl (by kernel_rfl) nP hT (y_pickT rfl rfl) rfl rfl fun a E => ?_
    refine k_take 28 E rfl (by kernel_rfl) nP hT (y_move rfl) rfl rfl fun a E => ?_
    refine k_skip 29 false E rfl (by kernel_rfl) nP hT rfl rfl fun a E => ?_
    refine k_skip 30 false E rfl (by kernel_rfl) nP hT rfl rfl fun a E => ?_
    refine k_skip 31 false E rfl (by kernel_rfl) nP hT rfl rfl fun a E => ?_
    refine k_skip 32 false E rfl (by kernel_rfl) nP hT rfl rfl fun a E => ?_
    refine k_take 33 E rfl (by kernel_rfl) nP hT (y_pickT rfl rfl) rfl rfl fun a E => ?_
    refine k_done (by kernel_rfl) ?_
    exact ⟨rfl, ⟨m0, le_m0, ok, E.keep [1, 38]⟩⟩
  replace hF := cond_f hc9 hF
  refine bsplit (r_0.Mod != 0) (fun hc10 => ?_) (fun hc10 => ?_)
  rotate_left
  · as_aux_lemma =>
      replace hF := cond_f hc10 hF
      refine bsplit (decide ((r_0.Spans.length : Int) < 1)) (fun hc29 => ?_) (fun hc29 => ?_)
      · replace hF := cond_t hc29 hF
        obtain rfl := Option.some.inj hF
        refine k_begin [] (Cls u m0 ([(b5, Obj.cells [(Value.int .i64 r_0.Operand), (Value.int .i64 r_0.Mod), (Value.bool r_0.Not), c3].toArray 33 (0, 0))] :: [])) (Cls u m0 ([(b5, Obj.cells [(Value.int .i64 r_0.Operand), (Value.int .i64 r_0.Mod), (Value.bool r_0.Not), c3].toArray 33 (0, 0))] :: [])) (by kernel_rfl) ?_
        intro w hw
        replace ok := okdrew ok hw
        clear hw
        have h4_o := h4
        refine k_next (cl1 ⟨m0, _, le_m0, ok, ⟨memAt 0 rfl, trivial⟩⟩ ⟨m0, _, le_m0, ok, ⟨memAt 0 rfl, trivial⟩⟩) fun hT => ?_
        refine k_take 0 E rfl (by kernel_rfl) nP hT (y_fieldAddr fo_33_0 rfl) rfl rfl fun a E => ?_
        refine k_take 1 E rfl (by kernel_rfl) nP hT (y_load one_3 rfl (Holds.cown 0 rfl rfl)) rfl rfl fun a E => ?_
        refine k_take 2 E rfl (by kernel_rfl) nP hT (y_lss rfl rfl) rfl rfl fun a E => ?_
        refine k_take 3 E rfl (by kernel_rfl) nP hT (y_move rfl) rfl rfl fun a E => ?_
        replace E := E.upd 8 hc8 rfl
        refine k_take 4 E rfl (by kernel_rfl) nP hT (y_fieldAddr fo_33_0 rfl) rfl rfl fun a E => ?_
        refine k_take 5 E rfl (by kernel_rfl) nP hT (y_load one_3 rfl (Holds.cown 0 rfl rfl)) rfl rfl fun a E => ?_
        refine k_take 6 E rfl (by kernel_rfl) nP hT (y_gtr rfl rfl) rfl rfl fun a E => ?_
        refine k_take 7 E rfl (by kernel_rfl) nP hT (y_pickF rfl rfl) rfl rfl fun a E => ?_
        refine k_take 8 E rfl (by kernel_rfl) nP hT (y_move rfl) rfl rfl fun a E => ?_
        replace E := E.upd 13 hc9 rfl
        refine k_take 9 E rfl (by kernel_rfl) nP hT (y_fieldAddr fo_33_1 rfl) rfl rfl fun a E => ?_
        refine k_take 10 E rfl (by kernel_rfl) nP hT (y_load one_3 rfl (Holds.cown 0 rfl rfl)) rfl rfl fun a E => ?_
        refine k_take 11 E rfl (by kernel_rfl) nP hT (y_neq rfl rfl) rfl rfl fun a E => ?_
        refine k_take 12 E rfl (by kernel_rfl) nP hT (y_move rfl) rfl rfl fun a E => ?_
        replace E := E.upd 17 hc10 rfl
        refine k_skip 13 false E rfl (by kernel_rfl) nP hT rfl rfl fun a E => ?_
        refine k_skip 14 false E rfl (by kernel_rfl) nP hT rfl rfl fun a E => ?_
        refine k_skip 15 false E rfl (by kernel_rfl) nP hT rfl rfl fun a E => ?_
        refine k_skip 16 false E rfl (by kernel_rfl) nP hT rfl rfl fun a E => ?_
        refine k_skip 17 false E rfl (by kernel_rfl) nP hT rfl rfl fun a E => ?_
        refine k_skip 18 false E rfl (by kernel_rfl) nP hT rfl rfl fun a E => ?_
        refine k_skip 19 false E rfl (by kernel_rfl) nP hT rfl rfl fun a E => ?_
        refine k_take 20 E rfl (by kernel_rfl) nP hT (y_pickF rfl rfl) rfl rfl fun a E => ?_
        refine k_take 21 E rfl (by kernel_rfl) nP hT (y_pickF rfl rfl) rfl rfl fun a E => ?_
        refine k_take 22 E rfl (by kernel_rfl) nP hT (y_move rfl) rfl rfl fun a E => ?_
        refine k_take 23 E rfl (by kernel_rfl) nP hT (y_fieldAddr fo_33_3 rfl) rfl rfl fun a E => ?_
        refine k_take 24 E rfl (by kernel_rfl) nP hT (y_load one_31 rfl (Holds.cown 0 rfl rfl)) rfl rfl fun a E => ?_
        refine k_take 25 E rfl (by kernel_rfl) nP hT (y_lenL sl_31 h4 rfl) rfl rfl fun a E => ?_
        refine k_take 26 E rfl (by kernel_rfl) nP hT (y_lss rfl rfl) rfl rfl fun a E => ?_
        refine k_take 27 E rfl (by kernel_rfl) nP hT (y_pickF rfl rfl) rfl rfl fun a E => ?_
        refine k_take 28 E rfl (by kernel_rfl) nP hT (y_move rfl) rfl rfl fun a E => ?_
        replace E := E.upd 33 hc29 rfl
        refine k_skip 29 false E rfl (by kernel_rfl) nP hT rfl rfl fun a E => ?_
        refine k_skip 30 false E rfl (by kernel_rfl) nP hT rfl rfl fun a E => ?_
        refine k_skip 31 false E rfl (by kernel_rfl) nP hT rfl rfl fun a E => ?_
        refine k_skip 32 false E rfl (by kernel_rfl) nP hT rfl rfl fun a E => ?_
        refine k_take 33 E rfl (by kernel_rfl) nP hT (y_pickT rfl rfl) rfl rfl fun a E => ?_
        refine k_done (by kernel_rfl) ?_
        exact ⟨rfl, ⟨m0, le_m0, ok, E.keep [1, 38]⟩⟩
      replace hF := cond_f hc29 hF
      obtain rfl := Option.some.inj hF
      refine k_begin [] (Cls u m0 ([(b5, Obj.cells [(Value.int .i64 r_0.Operand), (Value.int .i64 r_0.Mod), (Value.bool r_0.Not), c3].toArray 33 (0, 0))] :: [])) (Cls u m0 ([(b5, Obj.cells [(Value.int .i64 r_0.Operand), (Value.int .i64 r_0.Mod), (Value.bool r_0.Not), c3].toArray 33 (0, 0))] :: [])) (by kernel_rfl) ?_
      intro w hw
      replace ok := okdrew ok hw
      clear hw
      have h4_o := h4
      refine k_next (cl1 ⟨m0, _, le_m0, ok, ⟨memAt 0 rfl, trivial⟩⟩ ⟨m0, _, le_m0, ok, ⟨memAt 0 rfl, trivial⟩⟩) fun hT => ?_
      refine k_take 0 E rfl (by kernel_rfl) nP hT (y_fieldAddr fo_33_0 rfl) rfl rfl fun a E => ?_
      refine k_take 1 E rfl (by kernel_rfl) nP hT (y_load one_3 rfl (Holds.cown 0 rfl rfl)) rfl rfl fun a E => ?_
      refine k_take 2 E rfl (by kernel_rfl) nP hT (y_lss rfl rfl) rfl rfl fun a E => ?_
      refine k_take 3 E rfl (by kernel_rfl) nP hT (y_move rfl) rfl rfl fun a E => ?_
      replace E := E.upd 8 hc8 rfl
      refine k_take 4 E rfl (by kernel_rfl) nP hT (y_fieldAddr fo_33_0 rfl) rfl rfl fun a E => ?_
      refine k_take 5 E rfl (by kernel_rfl) nP hT (y_load one_3 rfl (Holds.cown 0 rfl rfl)) rfl rfl fun a E => ?_
      refine k_take 6 E rfl (by kernel_rfl) nP hT (y_gtr rfl rfl) rfl rfl fun a E => ?_
      refine k_take 7 E rfl (by kernel_rfl) nP hT (y_pickF rfl rfl) rfl rfl fun a E => ?_
      refine k_take 8 E rfl (by kernel_rfl) nP hT (y_move rfl) rfl rfl fun a E => ?_
      replace E := E.upd 13 hc9 rfl
      refine k_take 9 E rfl (by kernel_rfl) nP hT (y_fieldAddr fo_33_1 rfl) rfl rfl fun a E => ?_
      refine k_take 10 E rfl (by kernel_rfl) nP hT (y_load one_3 rfl (Holds.cown 0 rfl rfl)) rfl rfl fun a E => ?_
      refine k_take 11 E rfl (by kernel_rfl) nP hT (y_neq rfl rfl) rfl rfl fun a E => ?_
      refine k_take 12 E rfl (by kernel_rfl) nP hT (y_move rfl) rfl rfl fun a E => ?_
      replace E := E.upd 17 hc10 rfl
      refine k_skip 13 false E rfl (by kernel_rfl) nP hT rfl rfl fun a E => ?_
      refine k_skip 14 false E rfl (by kernel_rfl) nP hT rfl rfl fun a E => ?_
      refine k_skip 15 false E rfl (by kernel_rfl) nP hT rfl rfl fun a E => ?_
      refine k_skip 16 false E rfl (by kernel_rfl) nP hT rfl rfl fun a E => ?_
      refine k_skip 17 false E rfl (by kernel_rfl) nP hT rfl rfl fun a E => ?_
      refine k_skip 18 false E rfl (by kernel_rfl) nP hT rfl rfl fun a E => ?_
      refine k_skip 19 false E rfl (by kernel_rfl) nP hT rfl rfl fun a E => ?_
      refine k_take 20 E rfl (by kernel_rfl) nP hT (y_pickF rfl rfl) rfl rfl fun a E => ?_
      refine k_take 21 E rfl (by kernel_rfl) nP hT (y_pickF rfl rfl) rfl rfl fun a E => ?_
      refine k_take 22 E rfl (by kernel_rfl) nP hT (y_move rfl) rfl rfl fun a E => ?_
      refine k_take 23 E rfl (by kernel_rfl) nP hT (y_fieldAddr fo_33_3 rfl) rfl rfl fun a E => ?_
      refine k_take 24 E rfl (by kernel_rfl) nP hT (y_load one_31 rfl (Holds.cown 0 rfl rfl)) rfl rfl fun a E => ?_
      refine k_take 25 E rfl (by kernel_rfl) nP hT (y_lenL sl_31 h4 rfl) rfl rfl fun a E => ?_
      refine k_take 26 E rfl (by kernel_rfl) nP hT (y_lss rfl rfl) rfl rfl fun a E => ?_
      refine k_take 27 E rfl (by kernel_rfl) nP hT (y_pickF rfl rfl) rfl rfl fun a E => ?_
      refine k_take 28 E rfl (by kernel_rfl) nP hT (y_move rfl) rfl rfl fun a E => ?_
      replace E := E.upd 33 hc29 rfl
      refine k_take 29 E rfl (by kernel_rfl) nP hT (y_fieldAddr fo_33_3 rfl) rfl rfl fun a E => ?_
      refine k_take 30 E rfl (by kernel_rfl) nP hT (y_load one_31 rfl (Holds.cown 0 rfl rfl)) rfl rfl fun a E => ?_
      refine k_take 31 E rfl (by kernel_rfl) nP hT (y_lenL sl_31 h4 rfl) rfl rfl fun a E => ?_
      refine k_take 32 E rfl (by kernel_rfl) nP hT (y_gtr rfl rfl) rfl rfl fun a E => ?_
      refine k_take 33 E rfl (by kernel_rfl) nP hT (y_pickF rfl rfl) rfl rfl fun a E => ?_
      refine k_done (by kernel_rfl) ?_
      exact ⟨rfl, ⟨m0, le_m0, ok, E.keep [1, 38]⟩⟩
  replace hF := cond_t hc10 hF
  obtain ⟨r11, e12, hF⟩ := bnd hF
  obtain ⟨r16, e17, hF⟩ := bnd hF
  refine bsplit (!r16) (fun hc18 => ?_) (fun hc18 => ?_)
  · replace hF := cond_t hc18 hF
    obtain rfl := Option.some.inj hF
    refine k_begin [] (Cls u m0 ([(b5, Obj.cells [(Value.int .i64 r_0.Operand), (Value.int .i64 r_0.Mod), (Value.bool r_0.Not), c3].toArray 33 (0, 0))] :: [])) (Cls u m0 ([(b5, Obj.cells [(Value.int .i64 r_0.Operand), (Value.int .i64 r_0.Mod), (Value.bool r_0.Not), c3].toArray 33 (0, 0))] :: [])) (by kernel_rfl) ?_
    intro w hw
    replace ok := okdrew ok hw
    clear hw
    have h4_o := h4
    refine k_next (cl1 ⟨m0, _, le_m0, ok, ⟨memAt 0 rfl, trivial⟩⟩ ⟨m0, _, le_m0, ok, ⟨memAt 0 rfl, trivial⟩⟩) fun hT => ?_
    refine k_take 0 E rfl (by kernel_rfl) nP hT (y_fieldAddr fo_33_0 rfl) rfl rfl fun a E => ?_
    refine k_take 1 E rfl (by kernel_rfl) nP hT (y_load one_3 rfl (Holds.cown 0 rfl rfl)) rfl rfl fun a E => ?_
    refine k_take 2 E rfl (by kernel_rfl) nP hT (y_lss rfl rfl) rfl rfl fun a E => ?_
    refine k_take 3 E rfl (by kernel_rfl) nP hT (y_move rfl) rfl rfl fun a E => ?_
    replace E := E.upd 8 hc8 rfl
    refine k_take 4 E rfl (by kernel_rfl) nP hT (y_fieldAddr fo_33_0 rfl) rfl rfl fun a E => ?_
    refine k_take 5 E rfl (by kernel_rfl) nP hT (y_load one_3 rfl (Holds.cown 0 rfl rfl)) rfl rfl fun a E => ?_
    refine k_take 6 E rfl (by kernel_rfl) nP hT (y_gtr rfl rfl) rfl rfl fun a E => ?_
    refine k_take 7 E rfl (by kernel_rfl) nP hT (y_pickF rfl rfl) rfl rfl fun a E => ?_
    refine k_take 8 E rfl (by kernel_rfl) nP hT (y_move rfl) rfl rfl fun a E => ?_
    replace E := E.upd 13 hc9 rfl
    refine k_take 9 E rfl (by kernel_rfl) nP hT (y_fieldAddr fo_33_1 rfl) rfl rfl fun a E => ?_
    refine k_take 10 E rfl (by kernel_rfl) nP hT (y_load one_3 rfl (Holds.cown 0 rfl rfl)) rfl rfl fun a E => ?_
    refine k_take 11 E rfl (by kernel_rfl) nP hT (y_neq rfl rfl) rfl rfl fun a E => ?_
    refine k_take 12 E rfl (by kernel_rfl) nP hT (y_move rfl) rfl rfl fun a E => ?_
    replace E := E.upd 17 hc10 rfl
    refine k_take 13 E rfl (by kernel_rfl) nP hT (y_fieldAddr fo_33_0 rfl) rfl rfl fun a E => ?_
    refine k_take 14 E rfl (by kernel_rfl) nP hT (y_load one_3 rfl (Holds.cown 0 rfl rfl)) rfl rfl fun a E => ?_
    refine k_take 16 E rfl (by kernel_rfl) nP hT (y_fieldAddr fo_33_1 rfl) rfl rfl fun a E => ?_
    refine k_take 17 E rfl (by kernel_rfl) nP hT (y_load one_3 rfl (Holds.cown 0 rfl rfl)) rfl rfl fun a E => ?_
    refine k_all [15] (by kernel_rfl) rfl (one_c ?_)
    · refine wpOp_of_list (o := _) rfl ?_
      refine l_call E go_58 rfl (calqueref08_Mods_w N r_0.Operand r1 e12 hG ok) rfl rfl ?_
      rintro _ w ⟨m19, c20, rfl, hle, ok, h21⟩
      have le_m0 := le_m0.trans hle
      have h4 := (mL mSpan).up hle h4
      refine ⟨_, rfl, fun a E => ?_⟩
      refine wpList_nil ?_
      refine t_norm ?_
      refine k_next (cl1 ⟨m19, _, le_m0, ok, ⟨memAt 0 rfl, trivial⟩⟩ ⟨m19, _, le_m0, ok, ⟨memAt 0 rfl, trivial⟩⟩) fun hT => ?_
      refine k_all [18] (by kernel_rfl) rfl (one_c ?_)
      · refine wpOp_of_list (o := _) rfl ?_
        refine l_call E go_57 rfl (calqueref08_has_w N _ r11 h21 r_0.Mod r2 e17 hG ok) rfl rfl ?_
        rintro _ w ⟨rfl, ok⟩
        refine ⟨_, rfl, fun a E => ?_⟩
        refine wpList_nil ?_
        refine t_norm ?_
        refine k_next (cl1 ⟨m19, _, le_m0, ok, ⟨memAt 0 rfl, trivial⟩⟩ ⟨m19, _, le_m0, ok, ⟨memAt 0 rfl, trivial⟩⟩) fun hT => ?_
        refine k_take 19 E rfl (by kernel_rfl) nP hT (y_not rfl) rfl rfl fun a E => ?_
        refine k_take 20 E rfl (by kernel_rfl) nP hT (y_pickT rfl rfl) rfl rfl fun a E => ?_
        refine k_take 21 E rfl (by kernel_rfl) nP hT (y_pickF rfl rfl) rfl rfl fun a E => ?_
        refine k_take 22 E rfl (by kernel_rfl) nP hT (y_move rfl) rfl rfl fun a E => ?_
        replace E := E.upd 27 hc18 rfl
        refine k_skip 23 false E rfl (by kernel_rfl) nP hT rfl rfl fun a E => ?_
        refine k_skip 24 false E rfl (by kernel_rfl) nP hT rfl rfl fun a E => ?_
        refine k_skip 25 false E rfl (by kernel_rfl) nP hT rfl rfl fun a E => ?_
        refine k_skip 26 false E rfl (by kernel_rfl) nP hT rfl rfl fun a E => ?_
        refine k_take 27 E rfl (by kernel_rfl) nP hT (y_pickT rfl rfl) rfl rfl fun a E => ?_
        refine k_take 28 E rfl (by kernel_rfl) nP hT (y_move rfl) rfl rfl fun a E => ?_
        refine k_skip 29 false E rfl (by kernel_rfl) nP hT rfl rfl fun a E => ?_
        refine k_skip 30 false E rfl (by kernel_rfl) nP hT rfl rfl fun a E => ?_
        refine k_skip 31 false E rfl (by kernel_rfl) nP hT rfl rfl fun a E => ?_
        refine k_skip 32 false E rfl (by kernel_rfl) nP hT rfl rfl fun a E => ?_
        refine k_take 33 E rfl (by kernel_rfl) nP hT (y_pickT rfl rfl) rfl rfl fun a E => ?_
        refine k_done (by kernel_rfl) ?_
        exact ⟨rfl, ⟨m19, le_m0, ok, E.keep [1, 38]⟩⟩
  replace hF := cond_f hc18 hF
  refine bsplit (decide ((r_0.Spans.length : Int) < 1)) (fun hc22 => ?_) (fun hc22 => ?_)
  · replace hF := cond_t hc22 hF
    obtain rfl := Option.some.inj hF
    refine k_begin [] (Cls u m0 ([(b5, Obj.cells [(Value.int .i64 r_0.Operand), (Value.int .i64 r_0.Mod), (Value.bool r_0.Not), c3].toArray 33 (0, 0))] :: [])) (Cls u m0 ([(b5, Obj.cells [(Value.int .i64 r_0.Operand), (Value.int .i64 r_0.Mod), (Value.bool r_0.Not), c3].toArray 33 (0, 0))] :: [])) (by kernel_rfl) ?_
    intro w hw
    replace ok := okdrew ok hw
    clear hw
    have h4_o := h4
    refine k_next (cl1 ⟨m0, _, le_m0, ok, ⟨memAt 0 rfl, trivial⟩⟩ ⟨m0, _, le_m0, ok, ⟨memAt 0 rfl, trivial⟩⟩) fun hT => ?_
    refine k_take 0 E rfl (by kernel_rfl) nP hT (y_fieldAddr fo_33_0 rfl) rfl rfl fun a E => ?_
    refine k_take 1 E rfl (by kernel_rfl) nP hT (y_load one_3 rfl (Holds.cown 0 rfl rfl)) rfl rfl fun a E => ?_
    refine k_take 2 E rfl (by kernel_rfl) nP hT (y_lss rfl rfl) rfl rfl fun a E => ?_
    refine k_take 3 E rfl (by kernel_rfl) nP hT (y_move rfl) rfl rfl fun a E => ?_
    replace E := E.upd 8 hc8 rfl
    refine k_take 4 E rfl (by kernel_rfl) nP hT (y_fieldAddr fo_33_0 rfl) rfl rfl fun a E => ?_
    refine k_take 5 E rfl (by kernel_rfl) nP hT (y_load one_3 rfl (Holds.cown 0 rfl rfl)) rfl rfl fun a E => ?_
    refine k_take 6 E rfl (by kernel_rfl) nP hT (y_gtr rfl rfl) rfl rfl fun a E => ?_
    refine k_take 7 E rfl (by kernel_rfl) nP hT (y_pickF rfl rfl) rfl rfl fun a E => ?_
    refine k_take 8 E rfl (by kernel_rfl) nP hT (y_move rfl) rfl rfl fun a E => ?_
    replace E := E.upd 13 hc9 rfl
    refine k_take 9 E rfl (by kernel_rfl) nP hT (y_fieldAddr fo_33_1 rfl) rfl rfl fun a E => ?_
    refine k_take 10 E rfl (by kernel_rfl) nP hT (y_load one_3 rfl (Holds.cown 0 rfl rfl)) rfl rfl fun a E => ?_
    refine k_take 11 E rfl (by kernel_rfl) nP hT (y_neq rfl rfl) rfl rfl fun a E => ?_
    refine k_take 12 E rfl (by kernel_rfl) nP hT (y_move rfl) rfl rfl fun a E => ?_
    replace E := E.upd 17 hc10 rfl
    refine k_take 13 E rfl (by kernel_rfl) nP hT (y_fieldAddr fo_33_0 rfl) rfl rfl fun a E => ?_
    refine k_take 14 E rfl (by kernel_rfl) nP hT (y_load one_3 rfl (Holds.cown 0 rfl rfl)) rfl rfl fun a E => ?_
    refine k_take 16 E rfl (by kernel_rfl) nP hT (y_fieldAddr fo_33_1 rfl) rfl rfl fun a E => ?_
    refine k_take 17 E rfl (by kernel_rfl) nP hT (y_load one_3 rfl (Holds.cown 0 rfl rfl)) rfl rfl fun a E => ?_
    refine k_all [15] (by kernel_rfl) rfl (one_c ?_)
    · refine wpOp_of_list (o := _) rfl ?_
      refine l_call E go_58 rfl (calqueref08_Mods_w N r_0.Operand r1 e12 hG ok) rfl rfl ?_
      rintro _ w ⟨m23, c24, rfl, hle, ok, h25⟩
      have le_m0 := le_m0.trans hle
      have h4 := (mL mSpan).up hle h4
      refine ⟨_, rfl, fun a E => ?_⟩
      refine wpList_nil ?_
      refine t_norm ?_
      refine k_next (cl1 ⟨m23, _, le_m0, ok, ⟨memAt 0 rfl, trivial⟩⟩ ⟨m23, _, le_m0, ok, ⟨memAt 0 rfl, trivial⟩⟩) fun hT => ?_
      refine k_all [18] (by kernel_rfl) rfl (one_c ?_)
      · refine wpOp_of_list (o := _) rfl ?_
        refine l_call E go_57 rfl (calqueref08_has_w N _ r11 h25 r_0.Mod r2 e17 hG ok) rfl rfl ?_
        rintro _ w ⟨rfl, ok⟩
        refine ⟨_, rfl, fun a E => ?_⟩
        refine wpList_nil ?_
        refine t_norm ?_
        refine k_next (cl1 ⟨m23, _, le_m0, ok, ⟨memAt 0 rfl, trivial⟩⟩ ⟨m23, _, le_m0, ok, ⟨memAt 0 rfl, trivial⟩⟩) fun hT => ?_
        refine k_take 19 E rfl (by kernel_rfl) nP hT (y_not rfl) rfl rfl fun a E => ?_
        refine k_take 20 E rfl (by kernel_rfl) nP hT (y_pickT rfl rfl) rfl rfl fun a E => ?_
        refine k_take 21 E rfl (by kernel_rfl) nP hT (y_pickF rfl rfl) rfl rfl fun a E => ?_
        refine k_take 22 E rfl (by kernel_rfl) nP hT (y_move rfl) rfl rfl fun a E => ?_
        replace E := E.upd 27 hc18 rfl
        refine k_take 23 E rfl (by kernel_rfl) nP hT (y_fieldAddr fo_33_3 rfl) rfl rfl fun a E => ?_
        refine k_take 24 E rfl (by kernel_rfl) nP hT (y_load one_31 rfl (Holds.cown 0 rfl rfl)) rfl rfl fun a E => ?_
        refine k_take 25 E rfl (by kernel_rfl) nP hT (y_lenL sl_31 h4 rfl) rfl rfl fun a E => ?_
        refine k_take 26 E rfl (by kernel_rfl) nP hT (y_lss rfl rfl) rfl rfl fun a E => ?_
        refine k_take 27 E rfl (by kernel_rfl) nP hT (y_pickF rfl rfl) rfl rfl fun a E => ?_
        refine k_take 28 E rfl (by kernel_rfl) nP hT (y_move rfl) rfl rfl fun a E => ?_
        replace E := E.upd 33 hc22 rfl
        refine k_skip 29 false E rfl (by kernel_rfl) nP hT rfl rfl fun a E => ?_
        refine k_skip 30 false E rfl (by kernel_rfl) nP hT rfl rfl fun a E => ?_
        refine k_skip 31 false E rfl (by kernel_rfl) nP hT rfl rfl fun a E => ?_
        refine k_skip 32 false E rfl (by kernel_rfl) nP hT rfl rfl fun a E => ?_
        refine k_take 33 E rfl (by kernel_rfl) nP hT (y_pickT rfl rfl) rfl rfl fun a E => ?_
        refine k_done (by kernel_rfl) ?_
        exact ⟨rfl, ⟨m23, le_m0, ok, E.keep [1, 38]⟩⟩
  replace hF := cond_f hc22 hF
  obtain rfl := Option.some.inj hF
  refine k_begin [] (Cls u m0 ([(b5, Obj.cells [(Value.int .i64 r_0.Operand), (Value.int .i64 r_0.Mod), (Value.bool r_0.Not), c3].toArray 33 (0, 0))] :: [])) (Cls u m0 ([(b5, Obj.cells [(Value.int .i64 r_0.Operand), (Value.int .i64 r_0.Mod), (Value.bool r_0.Not), c3].toArray 33 (0, 0))] :: [])) (by kernel_rfl) ?_
  intro w hw
  replace ok := okdrew ok hw
  clear hw
  have h4_o := h4
  refine k_next (cl1 ⟨m0, _, le_m0, ok, ⟨memAt 0 rfl, trivial⟩⟩ ⟨m0, _, le_m0, ok, ⟨memAt 0 rfl, trivial⟩⟩) fun hT => ?_
  refine k_take 0 E rfl (by kernel_rfl) nP hT (y_fieldAddr fo_33_0 rfl) rfl rfl fun a E => ?_
  refine k_take 1 E rfl (by kernel_rfl) nP hT (y_load one_3 rfl (Holds.cown 0 rfl rfl)) rfl rfl fun a E => ?_
  refine k_take 2 E rfl (by kernel_rfl) nP hT (y_lss rfl rfl) rfl rfl fun a E => ?_
  refine k_take 3 E rfl (by kernel_rfl) nP hT (y_move rfl) rfl rfl fun a E => ?_
  replace E := E.upd 8 hc8 rfl
  refine k_take 4 E rfl (by kernel_rfl) nP hT (y_fieldAddr fo_33_0 rfl) rfl rfl fun a E => ?_
  refine k_take 5 E rfl (by kernel_rfl) nP hT (y_load one_3 rfl (Holds.cown 0 rfl rfl)) rfl rfl fun a E => ?_
  refine k_take 6 E rfl (by kernel_rfl) nP hT (y_gtr rfl rfl) rfl rfl fun a E => ?_
  refine k_take 7 E rfl (by kernel_rfl) nP hT (y_pickF rfl rfl) rfl rfl fun a E => ?_
  refine k_take 8 E rfl (by kernel_rfl) nP hT (y_move rfl) rfl rfl fun a E => ?_
  replace E := E.upd 13 hc9 rfl
  refine k_take 9 E rfl (by kernel_rfl) nP hT (y_fieldAddr fo_33_1 rfl) rfl rfl fun a E => ?_
  refine k_take 10 E rfl (by kernel_rfl) nP hT (y_load one_3 rfl (Holds.cown 0 rfl rfl)) rfl rfl fun a E => ?_
  refine k_take 11 E rfl (by kernel_rfl) nP hT (y_neq rfl rfl) rfl rfl fun a E => ?_
  refine k_take 12 E rfl (by kernel_rfl) nP hT (y_move rfl) rfl rfl fun a E => ?_
  replace E := E.upd 17 hc10 rfl
  refine k_take 13 E rfl (by kernel_rfl) nP hT (y_fieldAddr fo_33_0 rfl) rfl rfl fun a E => ?_
  refine k_take 14 E rfl (by kernel_rfl) nP hT (y_load one_3 rfl (Holds.cown 0 rfl rfl)) rfl rfl fun a E => ?_
  refine k_take 16 E rfl (by kernel_rfl) nP hT (y_fieldAddr fo_33_1 rfl) rfl rfl fun a E => ?_
  refine k_take 17 E rfl (by kernel_rfl) nP hT (y_load one_3 rfl (Holds.cown 0 rfl rfl)) rfl rfl fun a E => ?_
  refine k_all [15] (by kernel_rfl) rfl (one_c ?_)
  · refine wpOp_of_list (o := _) rfl ?_
    refine l_call E go_58 rfl (calqueref08_Mods_w N r_0.Operand r1 e12 hG ok) rfl rfl ?_
    rintro _ w ⟨m26, c27, rfl, hle, ok, h28⟩
    have le_m0 := le_m0.trans hle
    have h4 := (mL mSpan).up hle h4
    refine ⟨_, rfl, fun a E => ?_⟩
    refine wpList_nil ?_
    refine t_norm ?_
    refine k_next (cl1 ⟨m26, _, le_m0, ok, ⟨memAt 0 rfl, trivial⟩⟩ ⟨m26, _, le_m0, ok, ⟨memAt 0 rfl, trivial⟩⟩) fun hT => ?_
    refine k_all [18] (by kernel_rfl) rfl (one_c ?_)
    · refine wpOp_of_list (o := _) rfl ?_
      refine l_call E go_57 rfl (calqueref08_has_w N _ r11 h28 r_0.Mod r2 e17 hG ok) rfl rfl ?_
      rintro _ w ⟨rfl, ok⟩
      refine ⟨_, rfl, fun a E => ?_⟩
      refine wpList_nil ?_
      refine t_norm ?_
      refine k_next (cl1 ⟨m26, _, le_m0, ok, ⟨memAt 0 rfl, trivial⟩⟩ ⟨m26, _, le_m0, ok, ⟨memAt 0 rfl, trivial⟩⟩) fun hT => ?_
      refine k_take 19 E rfl (by kernel_rfl) nP hT (y_not rfl) rfl rfl fun a E => ?_
      refine k_take 20 E rfl (by kernel_rfl) nP hT (y_pickT rfl rfl) rfl rfl fun a E => ?_
      refine k_take 21 E rfl (by kernel_rfl) nP hT (y_pickF rfl rfl) rfl rfl fun a E => ?_
      refine k_take 22 E rfl (by kernel_rfl) nP hT (y_move rfl) rfl rfl fun a E => ?_
      replace E := E.upd 27 hc18 rfl
      refine k_take 23 E rfl (by kernel_rfl) nP hT (y_fieldAddr fo_33_3 rfl) rfl rfl fun a E => ?_
      refine k_take 24 E rfl (by kernel_rfl) nP hT (y_load one_31 rfl (Holds.cown 0 rfl rfl)) rfl rfl fun a E => ?_
      refine k_take 25 E rfl (by kernel_rfl) nP hT (y_lenL sl_31 h4 rfl) rfl rfl fun a E => ?_
      refine k_take 26 E rfl (by kernel_rfl) nP hT (y_lss rfl rfl) rfl rfl fun a E => ?_
      refine k_take 27 E rfl (by kernel_rfl) nP hT (y_pickF rfl rfl) rfl rfl fun a E => ?_
      refine k_take 28 E rfl (by kernel_rfl) nP hT (y_move rfl) rfl rfl fun a E => ?_
      replace E := E.upd 33 hc22 rfl
      refine k_take 29 E rfl (by kernel_rfl) nP hT (y_fieldAddr fo_33_3 rfl) rfl rfl fun a E => ?_
      refine k_take 30 E rfl (by kernel_rfl) nP hT (y_load one_31 rfl (Holds.cown 0 rfl rfl)) rfl rfl fun a E => ?_
      refine k_take 31 E rfl (by kernel_rfl) nP hT (y_lenL sl_31 h4 rfl) rfl rfl fun a E => ?_
      refine k_take 32 E rfl (by kernel_rfl) nP hT (y_gtr rfl rfl) rfl rfl fun a E => ?_
      refine k_take 33 E rfl (by kernel_rfl) nP hT (y_pickF rfl rfl) rfl rfl fun a E => ?_
      refine k_done (by kernel_rfl) ?_
      exact ⟨rfl, ⟨m26, le_m0, ok, E.keep [1, 38]⟩⟩

def calqueref08_Valid_R (u : World) (m0 : Mem) (S : Segs) (r : Bool) (a : Act) (w : World) : Prop :=
  Ok u m0 S w ∧ a.defers = [] ∧ RVs Tryz.prog a w [.t 2 (.bool r)]
set_option maxHeartbeats 4000000 in
set_option maxRecDepth 100000 in
theorem calqueref08_Valid_w {u : World} {m0 : Mem} {S : Segs} {w : World} (N : Nat) (vc_0 : Value) (c_0 : List (List (Relation))) (hc_0 : (pL 1 (pL 4 pRelation)) m0 [vc_0] c_0) {r : Bool} (hF : calqueref08_Valid N c_0 = some r) (hG : Glob u) (ok : Ok u m0 S w) :
    Calls Tryz.prog 13 [vc_0].toArray w fun e w' => (e = .returned (.bool r) ∧ Ok u m0 S w') := by
  have hb0 := ok.base
  have le_m0 := Mem.le.refl m0
  unfold calqueref08_Valid at hF
  have fin : ∀ a w, calqueref08_Valid_R u m0 S r a w → bodyPost Tryz.prog Tryz.f13 (fun e w' => (e = .returned (.bool r) ∧ Ok u m0 S w')) .ret a w := by
    intro a w h
    obtain ⟨ok, hd, hrv⟩ := h
    exact c_ret2 [.t 2 (.bool r)] hd rfl hrv ⟨rfl, ok⟩
  refine enter Tryz.func13 rfl rfl rfl fun a E => ?_
  refine wp_seq ?_
  refine c_region ?_
  refine l_val E ok (y_assign rfl) rfl rfl fun a E => ?_
  refine wpList_nil ?_
  refine t_norm ?_
  refine wp_seq ?_
  refine c_region ?_
  refine l_val E ok (y_assign rfl) rfl rfl fun a E => ?_
  refine wpList_nil ?_
  refine t_norm ?_
  refine wp_seq ?_
  refine wp_seq ?_
  refine c_region ?_
  refine l_val E ok (y_assign rfl) rfl rfl fun a E => ?_
  refine wpList_nil ?_
  refine t_norm ?_
  refine wp_block ?_
  obtain ⟨o3, hL, hF⟩ := bnd hF
  refine c_loop _ (fun (s : Int × Int) a w => Ok u m0 (S) w ∧ Env 45 a [(0, vc_0), (3, (Value.int .i64 s.1)), (4, (Value.int .i64 s.2))] ∧ InR .i64 s.1 ∧ InR .i64 s.2) (fun (b : (Int ⊕ Bool)) e a w => (Sum.elim (fun b77 => e = (.exit 0) ∧ Ok u m0 (S) w ∧ Env 45 a [(0, vc_0), (3, (Value.int .i64 b77))] ∧ InR .i64 b77) (fun b79 => e = .ret ∧ calqueref08_Valid_R u m0 S b79 a w)) b) ?_ ?_ N _ a w hL ⟨ok, E.keep [0, 3, 4], (show InR .i64 (0) by decide), (show InR .i64 (0) by decide)⟩
  rotate_left
  · intro e a w _ hO
    rcases o3 with o3 | o3
    rotate_left
    · replace hF := elim_r hF
      obtain ⟨rfl, hret⟩ := hO
      refine b_ret ?_
      refine t_ret ?_
      obtain rfl := Option.some.inj hF
      exact fin _ _ hret
    replace hF := elim_l hF
    obtain ⟨rfl, ok, E, r75⟩ := hO
    refine b_hit ?_
    refine t_norm ?_
    refine wp_seq ?_
    refine c_region ?_
    refine l_val E ok (y_move rfl) rfl rfl fun a E => ?_
    refine l_val E ok (y_lenL sl_23 hc_0 rfl) rfl rfl fun a E => ?_
    refine l_val E ok (y_gtr rfl rfl) rfl rfl fun a E => ?_
    refine l_val E ok (y_move rfl) rfl rfl fun a E => ?_
    refine bsplit (decide ((c_0.length : Int) > 0)) (fun hc76 => ?_) (fun hc76 => ?_)
    · replace hF := cond_t hc76 hF
      replace E := E.upd 41 hc76 rfl
      refine l_val E ok (y_move rfl) rfl rfl fun a E => ?_
      refine l_val E ok (y_leq rfl rfl) rfl rfl fun a E => ?_
      refine l_val E ok (y_pickT rfl rfl) rfl rfl fun a E => ?_
      refine l_val E ok (y_assign rfl) rfl rfl fun a E => ?_
      refine wpList_nil ?_
      refine t_norm ?_
      refine wp_ret ?_
      have hret : calqueref08_Valid_R u m0 S (decide (o3 ≤ 6)) a w := ⟨ok, E.d, ⟨rv_t E rfl, trivial⟩⟩
      obtain rfl := Option.some.inj hF
      exact fin _ _ hret
    replace hF := cond_f hc76 hF
    replace E := E.upd 41 hc76 rfl
    refine l_skip E rfl rfl fun a E => ?_
    refine l_skip E rfl rfl fun a E => ?_
    refine l_val E ok (y_pickF rfl rfl) rfl rfl fun a E => ?_
    refine l_val E ok (y_assign rfl) rfl rfl fun a E => ?_
    refine wpList_nil ?_
    refine t_norm ?_
    refine wp_ret ?_
    have hret : calqueref08_Valid_R u m0 S false a w := ⟨ok, E.d, ⟨rv_t E rfl, trivial⟩⟩
    obtain rfl := Option.some.inj hF
    exact fin _ _ hret
  rintro ⟨n_6, i_7⟩ a w r ⟨ok, E, r8, r9⟩ hF
  replace hF : calqueref08_Valid_b1 N c_0 n_6 i_7 = some r := hF
  unfold calqueref08_Valid_b1 at hF
  refine wp_seq ?_
  refine wp_seq ?_
  refine c_region ?_
  refine l_val E ok (y_move rfl) rfl rfl fun a E => ?_
  refine l_val E ok (y_move rfl) rfl rfl fun a E => ?_
  refine l_val E ok (y_lenL sl_23 hc_0 rfl) rfl rfl fun a E => ?_
  refine l_val E ok (y_lss rfl rfl) rfl rfl fun a E => ?_
  refine wpList_nil ?_
  refine t_norm ?_
  refine c_if E rfl (fun hc10 => ?_) (fun hc10 => ?_)
  rotate_left
  · replace hF := cond_f hc10 hF
    refine wp_exit ?_
    refine t_exit ?_
    obtain rfl := Option.some.inj hF
    exact step_o (by nofun) (sl ⟨rfl, ⟨ok, E.keep [0, 3], r8⟩⟩)
  replace hF := cond_t hc10 hF
  refine wp_skip ?_
  refine t_norm ?_
  refine wp_seq ?_
  refine wp_block ?_
  refine wp_seq ?_
  refine wp_seq ?_
  refine c_region ?_
  refine l_val E ok (y_move rfl) rfl rfl fun a E => ?_
  refine l_val E ok (y_move rfl) rfl rfl fun a E => ?_
  obtain ⟨x11, e12, hF⟩ := bnd hF
  obtain ⟨b13, o14, es15, hl16, rr17, at18, yy19⟩ := idxAt sl_23 hc_0 e12 (P := Tryz.prog) (X := .tmp 12) (I := .tmp 13) (kd := .i64) (ev_of E rfl) (ev_of E rfl)
  obtain ⟨c20, rfl, h21⟩ := pL_cell rr17
  refine l_val E ok (yy19 _ _) rfl rfl fun a E => ?_
  refine l_val E ok (y_load one_34 rfl (Holds.ro at18)) rfl rfl fun a E => ?_
  refine l_val E ok (y_lenL sl_34 h21 rfl) rfl rfl fun a E => ?_
  refine l_val E ok (y_eql rfl rfl) rfl rfl fun a E => ?_
  refine wpList_nil ?_
  refine t_norm ?_
  refine c_if E rfl (fun hc22 => ?_) (fun hc22 => ?_)
  · replace hF := cond_t hc22 hF
    refine wp_seq ?_
    refine c_region ?_
    refine l_val E ok (y_assign rfl) rfl rfl fun a E => ?_
    refine wpList_nil ?_
    refine t_norm ?_
    refine wp_ret ?_
    refine t_ret ?_
    refine b_ret ?_
    refine t_ret ?_
    have hret : calqueref08_Valid_R u m0 S false a w := ⟨ok, E.d, ⟨rv_t E rfl, trivial⟩⟩
    obtain rfl := Option.some.inj hF
    exact step_o (by nofun) (sr ⟨rfl, hret⟩)
  replace hF := cond_f hc22 hF
  refine wp_skip ?_
  refine t_norm ?_
  refine wp_seq ?_
  refine c_region ?_
  refine l_val E ok (y_assign rfl) rfl rfl fun a E => ?_
  refine wpList_nil ?_
  refine t_norm ?_
  refine wp_block ?_
  obtain ⟨o25, hL, hF⟩ := bnd hF
  refine c_loop _ (fun (s : Int × Int) a w => Ok u m0 (S) w ∧ Env 45 a [(0, vc_0), (3, (Value.int .i64 s.1)), (4, (Value.int .i64 i_7)), (5, (Value.int .i64 s.2))] ∧ InR .i64 s.1 ∧ InR .i64 s.2) (fun (b : (Int ⊕ Bool)) e a w => (Sum.elim (fun b72 => e = (.exit 2) ∧ Ok u m0 (S) w ∧ Env 45 a [(0, vc_0), (3, (Value.int .i64 b72)), (4, (Value.int .i64 i_7))] ∧ InR .i64 b72) (fun b74 => e = .ret ∧ calqueref08_Valid_R u m0 S b74 a w)) b) ?_ ?_ N _ a w hL ⟨ok, E.keep [0, 3, 4, 5], r8, (show InR .i64 (0) by decide)⟩
  rotate_left
  · intro e a w _ hO
    rcases o25 with o25 | o25
    rotate_left
    · replace hF := elim_r hF
      obtain ⟨rfl, hret⟩ := hO
      refine b_ret ?_
      refine b_ret ?_
      refine t_ret ?_
      obtain rfl := Option.some.inj hF
      exact step_o (by nofun) (sr ⟨rfl, hret⟩)
    replace hF := elim_l hF
    obtain ⟨rfl, ok, E, r71⟩ := hO
    refine b_hit ?_
    refine b_norm ?_
    refine t_norm ?_
    refine c_region ?_
    refine l_val E ok (y_move rfl) rfl rfl fun a E => ?_
    refine l_val E ok (y_add rfl rfl (InR.inc r9 (pL_InR hc_0) hc10)) rfl rfl fun a E => ?_
    refine l_val E ok (y_assign rfl) rfl rfl fun a E => ?_
    refine wpList_nil ?_
    obtain rfl := Option.some.inj hF
    exact step_n ⟨ok, E.keep [0, 3, 4], r71, (InR.inc r9 (pL_InR hc_0) hc10)⟩
  rintro ⟨n_28, k_29⟩ a w r ⟨ok, E, r30, r31⟩ hF
  replace hF : calqueref08_Valid_b2 N c_0 i_7 n_28 k_29 = some r := hF
  unfold calqueref08_Valid_b2 at hF
  refine wp_seq ?_
  refine wp_seq ?_
  refine c_region ?_
  refine l_val E ok (y_move rfl) rfl rfl fun a E => ?_
  refine l_val E ok (y_move rfl) rfl rfl fun a E => ?_
  refine l_val E ok (y_move rfl) rfl rfl fun a E => ?_
  obtain ⟨x32, e33, hF⟩ := bnd hF
  obtain ⟨b34, o35, es36, hl37, rr38, at39, yy40⟩ := idxAt sl_23 hc_0 e33 (P := Tryz.prog) (X := .tmp 19) (I := .tmp 20) (kd := .i64) (ev_of E rfl) (ev_of E rfl)
  obtain ⟨c41, rfl, h42⟩ := pL_cell rr38
  refine l_val E ok (yy40 _ _) rfl rfl fun a E => ?_
  refine l_val E ok (y_load one_34 rfl (Holds.ro at39)) rfl rfl fun a E => ?_
  refine l_val E ok (y_lenL sl_34 h42 rfl) rfl rfl fun a E => ?_
  refine l_val E ok (y_lss rfl rfl) rfl rfl fun a E => ?_
  refine wpList_nil ?_
  refine t_norm ?_
  refine c_if E rfl (fun hc43 => ?_) (fun hc43 => ?_)
  rotate_left
  · replace hF := cond_f hc43 hF
    refine wp_exit ?_
    refine t_exit ?_
    obtain rfl := Option.some.inj hF
    exact step_o (by nofun) (sl ⟨rfl, ⟨ok, E.keep [0, 3, 4], r30⟩⟩)
  replace hF := cond_t hc43 hF
  refine wp_skip ?_
  refine t_norm ?_
  refine wp_seq ?_
  refine wp_block ?_
  refine wp_seq ?_
  refine c_region ?_
  refine l_val E ok (y_move rfl) rfl rfl fun a E => ?_
  refine l_val E ok (y_addw rfl rfl) rfl rfl fun a E => ?_
  refine l_val E ok (y_assign rfl) rfl rfl fun a E => ?_
  refine wpList_nil ?_
  refine t_norm ?_
  refine wp_seq ?_
  refine c_region ?_
  refine l_val E ok (y_move rfl) rfl rfl fun a E => ?_
  refine l_val E ok (y_move rfl) rfl rfl fun a E => ?_
  obtain ⟨x44, e45, hF⟩ := bnd hF
  obtain ⟨b46, o47, es48, hl49, rr50, at51, yy52⟩ := idxAt sl_23 hc_0 e45 (P := Tryz.prog) (X := .tmp 29) (I := .tmp 30) (kd := .i64) (ev_of E rfl) (ev_of E rfl)
  obtain ⟨c53, rfl, h54⟩ := pL_cell rr50
  refine l_val E ok (yy52 _ _) rfl rfl fun a E => ?_
  refine l_val E ok (y_load one_34 rfl (Holds.ro at51)) rfl rfl fun a E => ?_
  refine l_val E ok (y_move rfl) rfl rfl fun a E => ?_
  obtain ⟨x55, e56, hF⟩ := bnd hF
  obtain ⟨b57, o58, es59, hl60, rr61, at62, yy63⟩ := idxAt sl_34 h54 e56 (P := Tryz.prog) (X := .tmp 32) (I := .tmp 33) (kd := .i64) (ev_of E rfl) (ev_of E rfl)
  obtain ⟨c66, rfl, r64, r65, h67⟩ := rr61
  refine l_val E ok (yy63 _ _) rfl rfl fun a E => ?_
  refine l_val E ok (y_loadAgg (cs := [(Value.int .i64 x55.Operand), (Value.int .i64 x55.Mod), (Value.bool x55.Not), c66]) agg_33 rfl rfl (Holds.ro at62)) rfl rfl fun a E => ?_
  obtain ⟨r68, e69, hF⟩ := bnd hF
  refine l_call E go_31 rfl (calqueref08_proper_w N _ x55 ⟨_, rfl, r64, r65, h67⟩ e69 hG ok) rfl rfl ?_
  rintro _ w ⟨rfl, ok⟩
  refine ⟨_, rfl, fun a E => ?_⟩
  refine l_val E ok (y_not rfl) rfl rfl fun a E => ?_
  refine wpList_nil ?_
  refine t_norm ?_
  refine c_if E rfl (fun hc70 => ?_) (fun hc70 => ?_)
  rotate_left
  · replace hF := cond_f hc70 hF
    refine wp_skip ?_
    refine b_norm ?_
    refine t_norm ?_
    refine c_region ?_
    refine l_val E ok (y_move rfl) rfl rfl fun a E => ?_
    refine l_val E ok (y_add rfl rfl (InR.inc r31 (pL_InR h42) hc43)) rfl rfl fun a E => ?_
    refine l_val E ok (y_assign rfl) rfl rfl fun a E => ?_
    refine wpList_nil ?_
    obtain rfl := Option.some.inj hF
    exact step_n ⟨ok, E.keep [0, 3, 4, 5], (InR.wrap _ _), (InR.inc r31 (pL_InR h42) hc43)⟩
  replace hF := cond_t hc70 hF
  refine wp_seq ?_
  refine c_region ?_
  refine l_val E ok (y_assign rfl) rfl rfl fun a E => ?_
  refine wpList_nil ?_
  refine t_norm ?_
  refine wp_ret ?_
  refine b_ret ?_
  refine t_ret ?_
  have hret : calqueref08_Valid_R u m0 S false a w := ⟨ok, E.d, ⟨rv_t E rfl, trivial⟩⟩
  obtain rfl := Option.some.inj hF
  exact step_o (by nofun) (sr ⟨rfl, hret⟩)

def calquelaw08_awake_R (u : World) (m0 : Mem) (S : Segs) (r : Bool) (a : Act) (w : World) : Prop :=
  Ok u m0 S w ∧ a.defers = [] ∧ RVs Tryz.prog a w [.t 0 (.bool r)]
set_option maxHeartbeats 4000000 in
set_option maxRecDepth 100000 in
theorem calquelaw08_awake_w {u : World} {m0 : Mem} {S : Segs} {w : World} (N : Nat) {r : Bool} (hF : calquelaw08_awake N  = some r) (hG : Glob u) (ok : Ok u m0 S w) :
    Calls Tryz.prog 9 [].toArray w fun e w' => (e = .returned (.bool r) ∧ Ok u m0 S w') := by
  have hb0 := ok.base
  have le_m0 := Mem.le.refl m0
  unfold calquelaw08_awake at hF
  have fin : ∀ a w, calquelaw08_awake_R u m0 S r a w → bodyPost Tryz.prog Tryz.f9 (fun e w' => (e = .returned (.bool r) ∧ Ok u m0 S w')) .ret a w := by
    intro a w h
    obtain ⟨ok, hd, hrv⟩ := h
    exact c_ret2 [.t 0 (.bool r)] hd rfl hrv ⟨rfl, ok⟩
  refine enter Tryz.func9 rfl rfl rfl fun a E => ?_
  refine wp_seq ?_
  refine c_region ?_
  refine l_val E ok (y_assign rfl) rfl rfl fun a E => ?_
  refine wpList_nil ?_
  refine t_norm ?_
  refine wp_seq ?_
  refine c_region ?_
  obtain ⟨r1, e2, hF⟩ := bnd hF
  refine l_call E go_19 rfl (condition_Parse_w N ([105, 32, 61, 32, 49, 32, 97, 110, 100, 32, 118, 32, 61, 32, 48]) (show ([105, 32, 61, 32, 49, 32, 97, 110, 100, 32, 118, 32, 61, 32, 48] : List UInt8).length ≤ LIMS by decide) e2 hG ok) rfl rfl ?_
  rintro _ w ⟨m3, c4, rfl, hle, ok, h5, r6, r7⟩
  have le_m0 := le_m0.trans hle
  refine ⟨_, rfl, fun a E => ?_⟩
  refine l_val E ok (y_move rfl) rfl rfl fun a E => ?_
  refine l_val E ok (y_extract rfl rfl) rfl rfl fun a E => ?_
  refine l_val E ok (y_extract rfl rfl) rfl rfl fun a E => ?_
  refine l_val E ok (y_extract rfl rfl) rfl rfl fun a E => ?_
  refine l_val E ok (y_assign rfl) rfl rfl fun a E => ?_
  refine l_val E ok (y_assign rfl) rfl rfl fun a E => ?_
  refine l_val E ok (y_assign rfl) rfl rfl fun a E => ?_
  refine wpList_nil ?_
  refine t_norm ?_
  refine wp_seq ?_
  refine c_region ?_
  refine l_val E ok (y_move rfl) rfl rfl fun a E => ?_
  obtain ⟨r8, e9, hF⟩ := bnd hF
  refine l_call E go_11 rfl (condition_Holds_w N _ r1.1 h5 ([49]) (show ([49] : List UInt8).length ≤ LIMS by decide) e9 hG ok) rfl rfl ?_
  rintro _ w ⟨⟨rfl, ok⟩, r10⟩
  refine ⟨_, rfl, fun a E => ?_⟩
  refine l_val E ok (y_move rfl) rfl rfl fun a E => ?_
  refine l_val E ok (y_extract rfl rfl) rfl rfl fun a E => ?_
  refine l_val E ok (y_extract rfl rfl) rfl rfl fun a E => ?_
  refine l_val E ok (y_assign rfl) rfl rfl fun a E => ?_
  refine l_val E ok (y_assign rfl) rfl rfl fun a E => ?_
  refine wpList_nil ?_
  refine t_norm ?_
  refine wp_seq ?_
  refine c_region ?_
  refine l_val E ok (y_move rfl) rfl rfl fun a E => ?_
  obtain ⟨r11, e12, hF⟩ := bnd hF
  refine l_call E go_11 rfl (condition_Holds_w N _ r1.1 h5 ([49, 46, 48]) (show ([49, 46, 48] : List UInt8).length ≤ LIMS by decide) e12 hG ok) rfl rfl ?_
  rintro _ w ⟨⟨rfl, ok⟩, r13⟩
  refine ⟨_, rfl, fun a E => ?_⟩
  refine l_val E ok (y_move rfl) rfl rfl fun a E => ?_
  refine l_val E ok (y_extract rfl rfl) rfl rfl fun a E => ?_
  refine l_val E ok (y_extract rfl rfl) rfl rfl fun a E => ?_
  refine l_val E ok (y_assign rfl) rfl rfl fun a E => ?_
  refine l_val E ok (y_assign rfl) rfl rfl fun a E => ?_
  refine wpList_nil ?_
  refine t_norm ?_
  refine wp_seq ?_
  refine c_region ?_
  refine l_val E ok (y_move rfl) rfl rfl fun a E => ?_
  refine l_val E ok (y_eql rfl rfl) rfl rfl fun a E => ?_
  refine l_val E ok (y_move rfl) rfl rfl fun a E => ?_
  refine bsplit (r1.2.2 == 0) (fun hc14 => ?_) (fun hc14 => ?_)
  rotate_left
  · replace hF := cond_f hc14 hF
    replace E := E.upd 25 hc14 rfl
    refine l_skip E rfl rfl fun a E => ?_
    refine l_skip E rfl rfl fun a E => ?_
    refine l_val E ok (y_pickF rfl rfl) rfl rfl fun a E => ?_
    refine l_val E ok (y_move rfl) rfl rfl fun a E => ?_
    refine l_skip E rfl rfl fun a E => ?_
    refine l_skip E rfl rfl fun a E => ?_
    refine l_val E ok (y_pickF rfl rfl) rfl rfl fun a E => ?_
    refine l_val E ok (y_move rfl) rfl rfl fun a E => ?_
    refine l_skip E rfl rfl fun a E => ?_
    refine l_val E ok (y_pickF rfl rfl) rfl rfl fun a E => ?_
    refine l_val E ok (y_move rfl) rfl rfl fun a E => ?_
    refine l_skip E rfl rfl fun a E => ?_
    refine l_skip E rfl rfl fun a E => ?_
    refine l_val E ok (y_pickF rfl rfl) rfl rfl fun a E => ?_
    refine l_val E ok (y_assign rfl) rfl rfl fun a E => ?_
    refine wpList_nil ?_
    refine t_norm ?_
    refine wp_ret ?_
    have hret : calquelaw08_awake_R u m0 S false a w := ⟨(ok).down hb0 le_m0, E.d, ⟨rv_t E rfl, trivial⟩⟩
    obtain rfl := Option.some.inj hF
    exact fin _ _ hret
  replace hF := cond_t hc14 hF
  replace E := E.upd 25 hc14 rfl
  refine l_val E ok (y_move rfl) rfl rfl fun a E => ?_
  refine l_val E ok (y_eql rfl rfl) rfl rfl fun a E => ?_
  refine l_val E ok (y_pickT rfl rfl) rfl rfl fun a E => ?_
  refine l_val E ok (y_move rfl) rfl rfl fun a E => ?_
  refine bsplit (r8.2 == 0) (fun hc15 => ?_) (fun hc15 => ?_)
  rotate_left
  · replace hF := cond_f hc15 hF
    replace E := E.upd 29 hc15 rfl
    refine l_skip E rfl rfl fun a E => ?_
    refine l_skip E rfl rfl fun a E => ?_
    refine l_val E ok (y_pickF rfl rfl) rfl rfl fun a E => ?_
    refine l_val E ok (y_move rfl) rfl rfl fun a E => ?_
    refine l_skip E rfl rfl fun a E => ?_
    refine l_val E ok (y_pickF rfl rfl) rfl rfl fun a E => ?_
    refine l_val E ok (y_move rfl) rfl rfl fun a E => ?_
    refine l_skip E rfl rfl fun a E => ?_
    refine l_skip E rfl rfl fun a E => ?_
    refine l_val E ok (y_pickF rfl rfl) rfl rfl fun a E => ?_
    refine l_val E ok (y_assign rfl) rfl rfl fun a E => ?_
    refine wpList_nil ?_
    refine t_norm ?_
    refine wp_ret ?_
    have hret : calquelaw08_awake_R u m0 S false a w := ⟨(ok).down hb0 le_m0, E.d, ⟨rv_t E rfl, trivial⟩⟩
    obtain rfl := Option.some.inj hF
    exact fin _ _ hret
  replace hF := cond_t hc15 hF
  replace E := E.upd 29 hc15 rfl
  refine l_val E ok (y_move rfl) rfl rfl fun a E => ?_
  refine l_val E ok (y_eql rfl rfl) rfl rfl fun a E => ?_
  refine l_val E ok (y_pickT rfl rfl) rfl rfl fun a E => ?_
  refine l_val E ok (y_move rfl) rfl rfl fun a E => ?_
  refine bsplit (r11.2 == 0) (fun hc16 => ?_) (fun hc16 => ?_)
  rotate_left
  · replace hF := cond_f hc16 hF
    replace E := E.upd 33 hc16 rfl
    refine l_skip E rfl rfl fun a E => ?_
    refine l_val E ok (y_pickF rfl rfl) rfl rfl fun a E => ?_
    refine l_val E ok (y_move rfl) rfl rfl fun a E => ?_
    refine l_skip E rfl rfl fun a E => ?_
    refine l_skip E rfl rfl fun a E => ?_
    refine l_val E ok (y_pickF rfl rfl) rfl rfl fun a E => ?_
    refine l_val E ok (y_assign rfl) rfl rfl fun a E => ?_
    refine wpList_nil ?_
    refine t_norm ?_
    refine wp_ret ?_
    have hret : calquelaw08_awake_R u m0 S false a w := ⟨(ok).down hb0 le_m0, E.d, ⟨rv_t E rfl, trivial⟩⟩
    obtain rfl := Option.some.inj hF
    exact fin _ _ hret
  replace hF := cond_t hc16 hF
  replace E := E.upd 33 hc16 rfl
  refine l_val E ok (y_move rfl) rfl rfl fun a E => ?_
  refine l_val E ok (y_pickT rfl rfl) rfl rfl fun a E => ?_
  refine l_val E ok (y_move rfl) rfl rfl fun a E => ?_
  refine bsplit r8.1 (fun hc17 => ?_) (fun hc17 => ?_)
  · replace hF := cond_t hc17 hF
    replace E := E.upd 36 hc17 rfl
    refine l_val E ok (y_move rfl) rfl rfl fun a E => ?_
    refine l_val E ok (y_not rfl) rfl rfl fun a E => ?_
    refine l_val E ok (y_pickT rfl rfl) rfl rfl fun a E => ?_
    refine l_val E ok (y_assign rfl) rfl rfl fun a E => ?_
    refine wpList_nil ?_
    refine t_norm ?_
    refine wp_ret ?_
    have hret : calquelaw08_awake_R u m0 S (!r11.1) a w := ⟨(ok).down hb0 le_m0, E.d, ⟨rv_t E rfl, trivial⟩⟩
    obtain rfl := Option.some.inj hF
    exact fin _ _ hret
  replace hF := cond_f hc17 hF
  replace E := E.upd 36 hc17 rfl
  refine l_skip E rfl rfl fun a E => ?_
  refine l_skip E rfl rfl fun a E => ?_
  refine l_val E ok (y_pickF rfl rfl) rfl rfl fun a E => ?_
  refine l_val E ok (y_assign rfl) rfl rfl fun a E => ?_
  refine wpList_nil ?_
  refine t_norm ?_
  refine wp_ret ?_
  have hret : calquelaw08_awake_R u m0 S false a w := ⟨(ok).down hb0 le_m0, E.d, ⟨rv_t E rfl, trivial⟩⟩
  obtain rfl := Option.some.inj hF
  exact fin _ _ hret

end Go.Proofs.YtbaiahglondepaaGreatDoor
