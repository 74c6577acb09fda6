/- The walks of this part: the model's run of each function yields what the plain function says. Printed by gen.py. -/
import Derived.Test.YthecjdgffboedaaDoorExt15a
import Derived.Test.YthecjdgffboedaaDoorChecked
import Derived.Test.YthecjdgffboedaaDoorShelf
set_option linter.unusedVariables false
namespace Go.Proofs.YthecjdgffboedaaDoor
open Go.X

/-- The variable internal/bytealg.MaxLen holds a number. -/
def Glob (u : World) : Prop := ∃ mx, u.cell? ⟨0, 0, none⟩ = some (.int .i64 mx)

def pNumber : Rp Number := fun _ cs x => cs = [.bool x.negative, .string (bs x.whole), .string (bs x.fraction)] ∧ x.whole.length ≤ LIMS ∧ x.fraction.length ≤ LIMS
theorem mNumber : Mono pNumber := ⟨fun _ h => by
  obtain ⟨e, h1, h2⟩ := h
  exact ⟨e, h1, h2⟩, fun h => by
  obtain ⟨rfl, h1, h2⟩ := h
  exact ⟨rfl, rfl, rfl, trivial⟩⟩

def pSymbols : Rp Symbols := fun _ cs x => cs = [.string (bs x.Decimal), .string (bs x.Group), .string (bs x.Minus), .string (bs x.Percent), .int .i64 x.Primary, .int .i64 x.Secondary] ∧ x.Decimal.length ≤ LIMS ∧ x.Group.length ≤ LIMS ∧ x.Minus.length ≤ LIMS ∧ x.Percent.length ≤ LIMS ∧ InR .i64 x.Primary ∧ InR .i64 x.Secondary
theorem mSymbols : Mono pSymbols := ⟨fun _ h => by
  obtain ⟨e, h0, h1, h2, h3, h4, h5⟩ := h
  exact ⟨e, h0, h1, h2, h3, h4, h5⟩, fun h => by
  obtain ⟨rfl, h0, h1, h2, h3, h4, h5⟩ := h
  exact ⟨rfl, rfl, rfl, rfl, rfl, rfl, trivial⟩⟩

theorem agg_58 : aggB Tryd.prog 58 3 = true := by kernel_rfl
theorem fo_23_1 : fieldOffB Tryd.prog 23 1 1 = true := by kernel_rfl
theorem fo_23_4 : fieldOffB Tryd.prog 23 4 4 = true := by kernel_rfl
theorem fo_23_5 : fieldOffB Tryd.prog 23 5 5 = true := by kernel_rfl
theorem fo_58_0 : fieldOffB Tryd.prog 58 0 0 = true := by kernel_rfl
theorem fo_58_1 : fieldOffB Tryd.prog 58 1 1 = true := by kernel_rfl
theorem fo_58_2 : fieldOffB Tryd.prog 58 2 2 = true := by kernel_rfl
theorem go_26 : goB Tryd.prog 26 = true := by kernel_rfl
theorem go_27 : goB Tryd.prog 27 = true := by kernel_rfl
theorem go_34 : goB Tryd.prog 34 = true := by kernel_rfl
theorem go_41 : goB Tryd.prog 41 = true := by kernel_rfl
theorem go_42 : goB Tryd.prog 42 = true := by kernel_rfl
theorem go_43 : goB Tryd.prog 43 = true := by kernel_rfl
theorem go_44 : goB Tryd.prog 44 = true := by kernel_rfl
theorem go_45 : goB Tryd.prog 45 = true := by kernel_rfl
theorem go_46 : goB Tryd.prog 46 = true := by kernel_rfl
theorem go_58 : goB Tryd.prog 58 = true := by kernel_rfl
theorem go_59 : goB Tryd.prog 59 = true := by kernel_rfl
theorem go_62 : goB Tryd.prog 62 = true := by kernel_rfl
theorem go_63 : goB Tryd.prog 63 = true := by kernel_rfl
theorem go_76 : goB Tryd.prog 76 = true := by kernel_rfl
theorem go_77 : goB Tryd.prog 77 = true := by kernel_rfl
set_option maxRecDepth 100000 in
theorem inf_5 : ∃ i, Tryd.prog.info? 5 = some i ∧ i.size = 1 := ⟨_, rfl, by kernel_rfl⟩
set_option maxRecDepth 100000 in
theorem inf_58 : ∃ i, Tryd.prog.info? 58 = some i ∧ i.size = 3 := ⟨_, rfl, by kernel_rfl⟩
set_option maxRecDepth 100000 in
theorem inf_9 : ∃ i, Tryd.prog.info? 9 = some i ∧ i.size = 1 := ⟨_, rfl, by kernel_rfl⟩
theorem one_3 : oneB Tryd.prog 3 = true := by kernel_rfl
theorem one_4 : oneB Tryd.prog 4 = true := by kernel_rfl
theorem one_5 : oneB Tryd.prog 5 = true := by kernel_rfl
theorem one_9 : oneB Tryd.prog 9 = true := by kernel_rfl
theorem places_58 : placesB Tryd.prog 58 = some [(0, 1), (1, 1), (2, 1)] := by kernel_rfl
theorem sl_33 : SlT Tryd.prog 33 9 1 := SlT.of (by kernel_rfl)
theorem sl_66 : SlT Tryd.prog 66 5 1 := SlT.of (by kernel_rfl)
theorem zero_58 : zeroB Tryd.prog 58 = some [(Value.bool false), (Value.string (bs ([]))), (Value.string (bs ([])))] := by kernel_rfl
theorem zero_9 : zeroB Tryd.prog 9 = some [(Value.string (bs ([])))] := by kernel_rfl

theorem strings_Cut_w {u : World} {m0 : Mem} {S : Segs} {w : World} (N : Nat) (p0_0 : List UInt8) (lp0_0 : p0_0.length ≤ LIMS) (p1_1 : List UInt8) (lp1_1 : p1_1.length ≤ LIMS) {r : (List UInt8) × (List UInt8) × Bool} (hF : strings_Cut N p0_0 p1_1 = some r) (hG : Glob u) (ok : Ok u m0 S w) :
    Calls Tryd.prog 34 [Value.string (bs p0_0), Value.string (bs p1_1)].toArray w fun e w' => (e = .returned (.tuple [(.string (bs r.1)), (.string (bs r.2.1)), (.bool r.2.2)].toArray) ∧ Ok u m0 S w') ∧ r.1.length ≤ LIMS ∧ r.2.1.length ≤ LIMS := by
  obtain ⟨mx, hmx⟩ := hG
  exact lib_Cut Tryd.lays145 hmx p0_0 p1_1 hF lp0_0 ok

theorem strings_CutPrefix_w {u : World} {m0 : Mem} {S : Segs} {w : World} (N : Nat) (p0_0 : List UInt8) (lp0_0 : p0_0.length ≤ LIMS) (p1_1 : List UInt8) (lp1_1 : p1_1.length ≤ LIMS) {r : (List UInt8) × Bool} (hF : strings_CutPrefix N p0_0 p1_1 = some r) (hG : Glob u) (ok : Ok u m0 S w) :
    Calls Tryd.prog 46 [Value.string (bs p0_0), Value.string (bs p1_1)].toArray w fun e w' => (e = .returned (.tuple [(.string (bs r.1)), (.bool r.2)].toArray) ∧ Ok u m0 S w') ∧ r.1.length ≤ LIMS := lib_CutPrefix Tryd.lays103 p0_0 p1_1 hF lp0_0 ok

theorem strings_Trim_w {u : World} {m0 : Mem} {S : Segs} {w : World} (N : Nat) (p0_0 : List UInt8) (lp0_0 : p0_0.length ≤ LIMS) (p1_1 : List UInt8) (lp1_1 : p1_1.length ≤ LIMS) {r : (List UInt8)} (hF : strings_Trim N p0_0 p1_1 = some r) (hG : Glob u) (ok : Ok u m0 S w) :
    Calls Tryd.prog 76 [Value.string (bs p0_0), Value.string (bs p1_1)].toArray w fun e w' => (e = .returned (.string (bs r)) ∧ Ok u m0 S w') ∧ r.length ≤ LIMS := lib_Trim Tryd.lays160 (by kernel_rfl) p0_0 p1_1 hF lp0_0 ok

def decimal_digits_R (u : World) (m0 : Mem) (S : Segs) (r : Bool) (a : Act) (w : World) : Prop :=
  Ok u m0 S w ∧ a.defers = [] ∧ RVs Tryd.prog a w [.t 2 (.bool r)]
set_option maxHeartbeats 4000000 in
set_option maxRecDepth 100000 in
theorem decimal_digits_w {u : World} {m0 : Mem} {S : Segs} {w : World} (N : Nat) (s_0 : List UInt8) (ls_0 : s_0.length ≤ LIMS) {r : Bool} (hF : decimal_digits N s_0 = some r) (hG : Glob u) (ok : Ok u m0 S w) :
    Calls Tryd.prog 58 [Value.string (bs s_0)].toArray w fun e w' => (e = .returned (.bool r) ∧ Ok u m0 S w') := by
  have hb0 := ok.base
  have le_m0 := Mem.le.refl m0
  unfold decimal_digits at hF
  have fin : ∀ a w, decimal_digits_R u m0 S r a w → bodyPost Tryd.prog Tryd.f58 (fun e w' => (e = .returned (.bool r) ∧ Ok u m0 S w')) .ret a w := by
    intro a w h
    obtain ⟨ok, hd, hrv⟩ := h
    exact c_ret2 [.t 2 (.bool r)] hd rfl hrv ⟨rfl, ok⟩
  refine enter Tryd.func58 rfl rfl rfl fun a E => ?_
  refine wp_seq ?_
  refine c_region ?_
  refine l_val E ok (y_assign rfl) rfl rfl fun a E => ?_
  refine wpList_nil ?_
  refine t_norm ?_
  refine wp_seq ?_
  refine c_region ?_
  refine l_val E ok (y_move rfl) rfl rfl fun a E => ?_
  obtain ⟨r1, e2, hF⟩ := bnd hF
  refine l_call E go_76 rfl (strings_Trim_w N s_0 ls_0 ([48, 49, 50, 51, 52, 53, 54, 55, 56, 57]) (show ([48, 49, 50, 51, 52, 53, 54, 55, 56, 57] : List UInt8).length ≤ LIMS by decide) e2 hG ok) rfl rfl ?_
  rintro _ w ⟨⟨rfl, ok⟩, l3⟩
  refine ⟨_, rfl, fun a E => ?_⟩
  refine l_val E ok (y_seql rfl rfl) rfl rfl fun a E => ?_
  refine l_val E ok (y_assign rfl) rfl rfl fun a E => ?_
  refine wpList_nil ?_
  refine t_norm ?_
  refine wp_ret ?_
  have hret : decimal_digits_R u m0 S (r1 == ([])) a w := ⟨ok, E.d, ⟨rv_t E rfl, trivial⟩⟩
  obtain rfl := Option.some.inj hF
  exact fin _ _ hret

def decimal_zero_R (u : World) (m0 : Mem) (S : Segs) (r : Bool) (a : Act) (w : World) : Prop :=
  Ok u m0 S w ∧ a.defers = [] ∧ RVs Tryd.prog a w [.t 2 (.bool r)]
set_option maxHeartbeats 4000000 in
set_option maxRecDepth 100000 in
theorem decimal_zero_w {u : World} {m0 : Mem} {S : Segs} {w : World} (N : Nat) (s_0 : List UInt8) (ls_0 : s_0.length ≤ LIMS) {r : Bool} (hF : decimal_zero N s_0 = some r) (hG : Glob u) (ok : Ok u m0 S w) :
    Calls Tryd.prog 77 [Value.string (bs s_0)].toArray w fun e w' => (e = .returned (.bool r) ∧ Ok u m0 S w') := by
  have hb0 := ok.base
  have le_m0 := Mem.le.refl m0
  unfold decimal_zero at hF
  have fin : ∀ a w, decimal_zero_R u m0 S r a w → bodyPost Tryd.prog Tryd.f77 (fun e w' => (e = .returned (.bool r) ∧ Ok u m0 S w')) .ret a w := by
    intro a w h
    obtain ⟨ok, hd, hrv⟩ := h
    exact c_ret2 [.t 2 (.bool r)] hd rfl hrv ⟨rfl, ok⟩
  refine enter Tryd.func77 rfl rfl rfl fun a E => ?_
  refine wp_seq ?_
  refine c_region ?_
  refine l_val E ok (y_assign rfl) rfl rfl fun a E => ?_
  refine wpList_nil ?_
  refine t_norm ?_
  refine wp_seq ?_
  refine c_region ?_
  refine l_val E ok (y_move rfl) rfl rfl fun a E => ?_
  obtain ⟨r1, e2, hF⟩ := bnd hF
  refine l_call E go_76 rfl (strings_Trim_w N s_0 ls_0 ([48]) (show ([48] : List UInt8).length ≤ LIMS by decide) e2 hG ok) rfl rfl ?_
  rintro _ w ⟨⟨rfl, ok⟩, l3⟩
  refine ⟨_, rfl, fun a E => ?_⟩
  refine l_val E ok (y_seql rfl rfl) rfl rfl fun a E => ?_
  refine l_val E ok (y_assign rfl) rfl rfl fun a E => ?_
  refine wpList_nil ?_
  refine t_norm ?_
  refine wp_ret ?_
  have hret : decimal_zero_R u m0 S (r1 == ([])) a w := ⟨ok, E.d, ⟨rv_t E rfl, trivial⟩⟩
  obtain rfl := Option.some.inj hF
  exact fin _ _ hret

def decimal_number_zero_R (u : World) (m0 : Mem) (S : Segs) (r : Bool) (a : Act) (w : World) : Prop :=
  Ok u m0 S w ∧ a.defers = [] ∧ RVs Tryd.prog a w [.t 2 (.bool r)]
set_option maxHeartbeats 4000000 in
set_option maxRecDepth 100000 in
theorem decimal_number_zero_w {u : World} {m0 : Mem} {S : Segs} {w : World} (N : Nat) (vx_0 : List Value) (x_0 : Number) (hx_0 : pNumber m0 vx_0 x_0) {r : Bool} (hF : decimal_number_zero N x_0 = some r) (hG : Glob u) (ok : Ok u m0 S w) :
    Calls Tryd.prog 59 [.agg vx_0.toArray].toArray w fun e w' => (e = .returned (.bool r) ∧ Ok u m0 S w') := by
  obtain ⟨rfl, l1, l2⟩ := hx_0
  have hb0 := ok.base
  have le_m0 := Mem.le.refl m0
  unfold decimal_number_zero at hF
  have fin : ∀ a w, decimal_number_zero_R u m0 S r a w → bodyPost Tryd.prog Tryd.f59 (fun e w' => (e = .returned (.bool r) ∧ Ok u m0 S w')) .ret a w := by
    intro a w h
    obtain ⟨ok, hd, hrv⟩ := h
    exact c_ret2 [.t 2 (.bool r)] hd rfl hrv ⟨rfl, ok⟩
  refine enter Tryd.func59 rfl rfl rfl fun a E => ?_
  refine wp_seq ?_
  refine c_region ?_
  refine l_box E ok rfl rfl rfl fun b3 a w E ok => ?_
  refine l_val E ok (y_assign rfl) rfl rfl fun a E => ?_
  refine wpList_nil ?_
  refine t_norm ?_
  refine wp_seq ?_
  refine c_region ?_
  refine l_val E ok (y_fieldAddr fo_58_1 rfl) rfl rfl fun a E => ?_
  refine l_val E ok (y_load one_9 rfl (Holds.own 0 rfl rfl)) rfl rfl fun a E => ?_
  obtain ⟨r4, e5, hF⟩ := bnd hF
  refine l_call E go_77 rfl (decimal_zero_w N x_0.whole l1 e5 hG ok) rfl rfl ?_
  rintro _ w ⟨rfl, ok⟩
  refine ⟨_, rfl, fun a E => ?_⟩
  refine l_val E ok (y_move rfl) rfl rfl fun a E => ?_
  refine bsplit r4 (fun hc6 => ?_) (fun hc6 => ?_)
  rotate_left
  · replace hF := cond_f hc6 hF
    replace E := E.upd 6 hc6 rfl
    refine l_skip E rfl rfl fun a E => ?_
    refine l_skip E rfl rfl fun a E => ?_
    refine l_skip E rfl rfl fun a E => ?_
    refine l_val E ok (y_pickF rfl rfl) rfl rfl fun a E => ?_
    refine l_val E ok (y_assign rfl) rfl rfl fun a E => ?_
    refine wpList_nil ?_
    refine t_norm ?_
    refine wp_ret ?_
    have hret : decimal_number_zero_R u m0 S false a w := ⟨ok.drop, E.d, ⟨rv_t E rfl, trivial⟩⟩
    obtain rfl := Option.some.inj hF
    exact fin _ _ hret
  replace hF := cond_t hc6 hF
  replace E := E.upd 6 hc6 rfl
  refine l_val E ok (y_fieldAddr fo_58_2 rfl) rfl rfl fun a E => ?_
  refine l_val E ok (y_load one_9 rfl (Holds.own 0 rfl rfl)) rfl rfl fun a E => ?_
  obtain ⟨r7, e8, hF⟩ := bnd hF
  refine l_call E go_77 rfl (decimal_zero_w N x_0.fraction l2 e8 hG ok) rfl rfl ?_
  rintro _ w ⟨rfl, ok⟩
  refine ⟨_, rfl, fun a E => ?_⟩
  refine l_val E ok (y_pickT rfl rfl) rfl rfl fun a E => ?_
  refine l_val E ok (y_assign rfl) rfl rfl fun a E => ?_
  refine wpList_nil ?_
  refine t_norm ?_
  refine wp_ret ?_
  have hret : decimal_number_zero_R u m0 S r7 a w := ⟨ok.drop, E.d, ⟨rv_t E rfl, trivial⟩⟩
  obtain rfl := Option.some.inj hF
  exact fin _ _ hret

def decimal_split_R (u : World) (m0 : Mem) (S : Segs) (r : Number × Bool) (a : Act) (w : World) : Prop :=
  ∃ m1 v0, m0.le m1 ∧ Ok u m1 S w ∧ a.defers = [] ∧ RVs Tryd.prog a w [.c 2 58 (.agg v0.toArray), .t 3 (.bool r.2)] ∧ pNumber m1 v0 r.1
set_option maxHeartbeats 4000000 in
set_option maxRecDepth 100000 in
theorem decimal_split_w {u : World} {m0 : Mem} {S : Segs} {w : World} (N : Nat) (s_0 : List UInt8) (ls_0 : s_0.length ≤ LIMS) {r : Number × Bool} (hF : decimal_split N s_0 = some r) (hG : Glob u) (ok : Ok u m0 S w) :
    Calls Tryd.prog 41 [Value.string (bs s_0)].toArray w fun e w' => ∃ m1 v0, e = .returned (.tuple [(.agg v0.toArray), (.bool r.2)].toArray) ∧ m0.le m1 ∧ Ok u m1 S w' ∧ pNumber m1 v0 r.1 := by
  have le_m0 := Mem.le.refl m0
  unfold decimal_split at hF
  have fin : ∀ a w, decimal_split_R u m0 S r a w → bodyPost Tryd.prog Tryd.f41 (fun e w' => ∃ m1 v0, e = .returned (.tuple [(.agg v0.toArray), (.bool r.2)].toArray) ∧ m0.le m1 ∧ Ok u m1 S w' ∧ pNumber m1 v0 r.1) .ret a w := by
    intro a w h
    obtain ⟨m1, v0, hle, ok, hd, hrv, h0⟩ := h
    exact c_ret2 [.c 2 58 (.agg v0.toArray), .t 3 (.bool r.2)] hd rfl hrv ⟨m1, v0, rfl, hle, ok, h0⟩
  refine enter Tryd.func41 rfl rfl rfl fun a E => ?_
  refine wp_seq ?_
  refine c_region ?_
  refine l_alloc E ok zero_58 rfl rfl fun b1 a w E ok => ?_
  refine l_val E ok (y_assign rfl) rfl rfl fun a E => ?_
  refine wpList_nil ?_
  refine t_norm ?_
  refine wp_seq ?_
  refine c_region ?_
  refine l_val E ok (y_move rfl) rfl rfl fun a E => ?_
  obtain ⟨r2, e3, hF⟩ := bnd hF
  refine l_call E go_46 rfl (strings_CutPrefix_w N s_0 ls_0 ([45]) (show ([45] : List UInt8).length ≤ LIMS by decide) e3 hG ok) rfl rfl ?_
  rintro _ w ⟨⟨rfl, ok⟩, l4⟩
  refine ⟨_, rfl, fun a E => ?_⟩
  refine l_val E ok (y_move rfl) rfl rfl fun a E => ?_
  refine l_val E ok (y_extract rfl rfl) rfl rfl fun a E => ?_
  refine l_val E ok (y_extract rfl rfl) rfl rfl fun a E => ?_
  refine l_val E ok (y_assign rfl) rfl rfl fun a E => ?_
  refine l_val E ok (y_assign rfl) rfl rfl fun a E => ?_
  refine wpList_nil ?_
  refine t_norm ?_
  refine wp_seq ?_
  refine c_region ?_
  refine l_val E ok (y_move rfl) rfl rfl fun a E => ?_
  obtain ⟨r5, e6, hF⟩ := bnd hF
  refine l_call E go_34 rfl (strings_Cut_w N r2.1 l4 ([46]) (show ([46] : List UInt8).length ≤ LIMS by decide) e6 hG ok) rfl rfl ?_
  rintro _ w ⟨⟨rfl, ok⟩, l7, l8⟩
  refine ⟨_, rfl, fun a E => ?_⟩
  refine l_val E ok (y_move rfl) rfl rfl fun a E => ?_
  refine l_val E ok (y_extract rfl rfl) rfl rfl fun a E => ?_
  refine l_val E ok (y_extract rfl rfl) rfl rfl fun a E => ?_
  refine l_val E ok (y_extract rfl rfl) rfl rfl fun a E => ?_
  refine l_val E ok (y_assign rfl) rfl rfl fun a E => ?_
  refine l_val E ok (y_assign rfl) rfl rfl fun a E => ?_
  refine l_val E ok (y_assign rfl) rfl rfl fun a E => ?_
  refine wpList_nil ?_
  refine t_norm ?_
  refine wp_seq ?_
  refine c_region ?_
  refine l_val E ok (y_move rfl) rfl rfl fun a E => ?_
  refine l_val E ok (y_move rfl) rfl rfl fun a E => ?_
  refine l_val E ok (y_move rfl) rfl rfl fun a E => ?_
  refine l_val E ok (y_build (ps := [(0, .tmp 21), (1, .tmp 22), (2, .tmp 23)]) (qs := [(0, [(Value.bool r2.2)]), (1, [(Value.string (bs r5.1))]), (2, [(Value.string (bs r5.2.1))])]) (cs := [(Value.bool r2.2), (Value.string (bs r5.1)), (Value.string (bs r5.2.1))]) zero_58 places_58 rfl ⟨rfl, rfl, rfl, ⟨rfl, rfl, rfl, ⟨rfl, rfl, rfl, trivial⟩⟩⟩ rfl) rfl rfl fun a E => ?_
  refine l_alloc E ok zero_58 rfl rfl fun b9 a w E ok => ?_
  refine l_storeB E ok 0 rfl rfl rfl inf_58 rfl rfl ⟨rfl, rfl, rfl, trivial⟩ rfl rfl fun w ok => ?_
  refine wpList_nil ?_
  refine t_norm ?_
  refine wp_seq ?_
  refine wp_block ?_
  refine wp_seq ?_
  refine c_region ?_
  refine l_val E ok (y_move rfl) rfl rfl fun a E => ?_
  refine l_val E ok (y_slen Tryd.underlying9 rfl) rfl rfl fun a E => ?_
  refine l_val E ok (y_lss rfl rfl) rfl rfl fun a E => ?_
  refine l_val E ok (y_move rfl) rfl rfl fun a E => ?_
  refine bsplit (decide ((r5.1.length : Int) < 1)) (fun hc10 => ?_) (fun hc10 => ?_)
  · replace hF := cond_t hc10 hF
    replace E := E.upd 29 hc10 rfl
    refine l_skip E rfl rfl fun a E => ?_
    refine l_skip E rfl rfl fun a E => ?_
    refine l_skip E rfl rfl fun a E => ?_
    refine l_val E ok (y_pickT rfl rfl) rfl rfl fun a E => ?_
    refine l_val E ok (y_move rfl) rfl rfl fun a E => ?_
    refine l_skip E rfl rfl fun a E => ?_
    refine l_skip E rfl rfl fun a E => ?_
    refine l_skip E rfl rfl fun a E => ?_
    refine l_val E ok (y_pickT rfl rfl) rfl rfl fun a E => ?_
    refine l_val E ok (y_move rfl) rfl rfl fun a E => ?_
    refine l_skip E rfl rfl fun a E => ?_
    refine l_skip E rfl rfl fun a E => ?_
    refine l_skip E rfl rfl fun a E => ?_
    refine l_skip E rfl rfl fun a E => ?_
    refine l_skip E rfl rfl fun a E => ?_
    refine l_skip E rfl rfl fun a E => ?_
    refine l_skip E rfl rfl fun a E => ?_
    refine l_skip E rfl rfl fun a E => ?_
    refine l_val E ok (y_pickT rfl rfl) rfl rfl fun a E => ?_
    refine l_val E ok (y_assign rfl) rfl rfl fun a E => ?_
    refine wpList_nil ?_
    refine t_norm ?_
    refine c_if E rfl (fun _ => ?_) (fun h => by cases h)
    refine wp_seq ?_
    refine c_region ?_
    refine l_val E ok (y_loadAgg (cs := [(Value.bool r2.2), (Value.string (bs r5.1)), (Value.string (bs r5.2.1))]) agg_58 rfl rfl (Holds.own 0 rfl rfl)) rfl rfl fun a E => ?_
    refine l_storeB E ok 1 rfl rfl rfl inf_58 rfl rfl ⟨rfl, rfl, rfl, trivial⟩ rfl rfl fun w ok => ?_
    refine l_val E ok (y_assign rfl) rfl rfl fun a E => ?_
    refine wpList_nil ?_
    refine t_norm ?_
    refine wp_ret ?_
    refine b_ret ?_
    refine t_ret ?_
    have hret : decimal_split_R u m0 S ((Number.mk r2.2 r5.1 r5.2.1), false) a w := ⟨m0, [(Value.bool r2.2), (Value.string (bs r5.1)), (Value.string (bs r5.2.1))], le_m0, ok.drop.drop, E.d, ⟨rv_c (cs := [(Value.bool r2.2), (Value.string (bs r5.1)), (Value.string (bs r5.2.1))]) E ok rfl agg_58 rfl (Holds.own 1 rfl rfl), rv_t E rfl, trivial⟩, ⟨rfl, l7, l8⟩⟩
    obtain rfl := Option.some.inj hF
    exact fin _ _ hret
  replace hF := cond_f hc10 hF
  replace E := E.upd 29 hc10 rfl
  refine l_val E ok (y_move rfl) rfl rfl fun a E => ?_
  refine l_val E ok (y_slen Tryd.underlying9 rfl) rfl rfl fun a E => ?_
  refine l_val E ok (y_gtr rfl rfl) rfl rfl fun a E => ?_
  refine l_val E ok (y_pickF rfl rfl) rfl rfl fun a E => ?_
  refine l_val E ok (y_move rfl) rfl rfl fun a E => ?_
  refine bsplit (decide ((r5.1.length : Int) > 15)) (fun hc11 => ?_) (fun hc11 => ?_)
  · replace hF := cond_t hc11 hF
    replace E := E.upd 34 hc11 rfl
    refine l_skip E rfl rfl fun a E => ?_
    refine l_skip E rfl rfl fun a E => ?_
    refine l_skip E rfl rfl fun a E => ?_
    refine l_val E ok (y_pickT rfl rfl) rfl rfl fun a E => ?_
    refine l_val E ok (y_move rfl) rfl rfl fun a E => ?_
    refine l_skip E rfl rfl fun a E => ?_
    refine l_skip E rfl rfl fun a E => ?_
    refine l_skip E rfl rfl fun a E => ?_
    refine l_skip E rfl rfl fun a E => ?_
    refine l_skip E rfl rfl fun a E => ?_
    refine l_skip E rfl rfl fun a E => ?_
    refine l_skip E rfl rfl fun a E => ?_
    refine l_skip E rfl rfl fun a E => ?_
    refine l_val E ok (y_pickT rfl rfl) rfl rfl fun a E => ?_
    refine l_val E ok (y_assign rfl) rfl rfl fun a E => ?_
    refine wpList_nil ?_
    refine t_norm ?_
    refine c_if E rfl (fun _ => ?_) (fun h => by cases h)
    refine wp_seq ?_
    refine c_region ?_
    refine l_val E ok (y_loadAgg (cs := [(Value.bool r2.2), (Value.string (bs r5.1)), (Value.string (bs r5.2.1))]) agg_58 rfl rfl (Holds.own 0 rfl rfl)) rfl rfl fun a E => ?_
    refine l_storeB E ok 1 rfl rfl rfl inf_58 rfl rfl ⟨rfl, rfl, rfl, trivial⟩ rfl rfl fun w ok => ?_
    refine l_val E ok (y_assign rfl) rfl rfl fun a E => ?_
    refine wpList_nil ?_
    refine t_norm ?_
    refine wp_ret ?_
    refine b_ret ?_
    refine t_ret ?_
    have hret : decimal_split_R u m0 S ((Number.mk r2.2 r5.1 r5.2.1), false) a w := ⟨m0, [(Value.bool r2.2), (Value.string (bs r5.1)), (Value.string (bs r5.2.1))], le_m0, ok.drop.drop, E.d, ⟨rv_c (cs := [(Value.bool r2.2), (Value.string (bs r5.1)), (Value.string (bs r5.2.1))]) E ok rfl agg_58 rfl (Holds.own 1 rfl rfl), rv_t E rfl, trivial⟩, ⟨rfl, l7, l8⟩⟩
    obtain rfl := Option.some.inj hF
    exact fin _ _ hret
  replace hF := cond_f hc11 hF
  replace E := E.upd 34 hc11 rfl
  refine l_val E ok (y_move rfl) rfl rfl fun a E => ?_
  obtain ⟨r12, e13, hF⟩ := bnd hF
  refine l_call E go_58 rfl (decimal_digits_w N r5.1 l7 e13 hG ok) rfl rfl ?_
  rintro _ w ⟨rfl, ok⟩
  refine ⟨_, rfl, fun a E => ?_⟩
  refine l_val E ok (y_not rfl) rfl rfl fun a E => ?_
  refine l_val E ok (y_pickF rfl rfl) rfl rfl fun a E => ?_
  refine l_val E ok (y_move rfl) rfl rfl fun a E => ?_
  refine bsplit (!r12) (fun hc14 => ?_) (fun hc14 => ?_)
  · replace hF := cond_t hc14 hF
    replace E := E.upd 39 hc14 rfl
    refine l_skip E rfl rfl fun a E => ?_
    refine l_skip E rfl rfl fun a E => ?_
    refine l_skip E rfl rfl fun a E => ?_
    refine l_skip E rfl rfl fun a E => ?_
    refine l_skip E rfl rfl fun a E => ?_
    refine l_skip E rfl rfl fun a E => ?_
    refine l_skip E rfl rfl fun a E => ?_
    refine l_skip E rfl rfl fun a E => ?_
    refine l_val E ok (y_pickT rfl rfl) rfl rfl fun a E => ?_
    refine l_val E ok (y_assign rfl) rfl rfl fun a E => ?_
    refine wpList_nil ?_
    refine t_norm ?_
    refine c_if E rfl (fun _ => ?_) (fun h => by cases h)
    refine wp_seq ?_
    refine c_region ?_
    refine l_val E ok (y_loadAgg (cs := [(Value.bool r2.2), (Value.string (bs r5.1)), (Value.string (bs r5.2.1))]) agg_58 rfl rfl (Holds.own 0 rfl rfl)) rfl rfl fun a E => ?_
    refine l_storeB E ok 1 rfl rfl rfl inf_58 rfl rfl ⟨rfl, rfl, rfl, trivial⟩ rfl rfl fun w ok => ?_
    refine l_val E ok (y_assign rfl) rfl rfl fun a E => ?_
    refine wpList_nil ?_
    refine t_norm ?_
    refine wp_ret ?_
    refine b_ret ?_
    refine t_ret ?_
    have hret : decimal_split_R u m0 S ((Number.mk r2.2 r5.1 r5.2.1), false) a w := ⟨m0, [(Value.bool r2.2), (Value.string (bs r5.1)), (Value.string (bs r5.2.1))], le_m0, ok.drop.drop, E.d, ⟨rv_c (cs := [(Value.bool r2.2), (Value.string (bs r5.1)), (Value.string (bs r5.2.1))]) E ok rfl agg_58 rfl (Holds.own 1 rfl rfl), rv_t E rfl, trivial⟩, ⟨rfl, l7, l8⟩⟩
    obtain rfl := Option.some.inj hF
    exact fin _ _ hret
  replace hF := cond_f hc14 hF
  replace E := E.upd 39 hc14 rfl
  refine l_val E ok (y_move rfl) rfl rfl fun a E => ?_
  refine l_val E ok (y_slen Tryd.underlying9 rfl) rfl rfl fun a E => ?_
  refine l_val E ok (y_gtr rfl rfl) rfl rfl fun a E => ?_
  refine l_val E ok (y_move rfl) rfl rfl fun a E => ?_
  refine bsplit (decide ((r5.1.length : Int) > 1)) (fun hc15 => ?_) (fun hc15 => ?_)
  rotate_left
  · as_aux_lemma =>
      replace hF := cond_f hc15 hF
      replace E := E.upd 43 hc15 rfl
      refine l_skip E rfl rfl fun a E => ?_
      refine l_skip E rfl rfl fun a E => ?_
      refine l_skip E rfl rfl fun a E => ?_
      refine l_val E ok (y_pickF rfl rfl) rfl rfl fun a E => ?_
      refine l_val E ok (y_pickF rfl rfl) rfl rfl fun a E => ?_
      refine l_val E ok (y_assign rfl) rfl rfl fun a E => ?_
      refine wpList_nil ?_
      refine t_norm ?_
      refine c_if E rfl (fun h => by cases h) (fun _ => ?_)
      refine wp_seq ?_
      refine c_region ?_
      refine l_val E ok (y_move rfl) rfl rfl fun a E => ?_
      refine l_val E ok (y_move rfl) rfl rfl fun a E => ?_
      refine bsplit r5.2.2 (fun hc45 => ?_) (fun hc45 => ?_)
      rotate_left
      · as_aux_lemma =>
          replace hF := cond_f hc45 hF
          replace E := E.upd 52 hc45 rfl
          refine l_skip E rfl rfl fun a E => ?_
          refine l_skip E rfl rfl fun a E => ?_
          refine l_skip E rfl rfl fun a E => ?_
          refine l_val E ok (y_pickF rfl rfl) rfl rfl fun a E => ?_
          refine l_val E ok (y_move rfl) rfl rfl fun a E => ?_
          refine l_val E ok (y_move rfl) rfl rfl fun a E => ?_
          refine l_val E ok (y_slen Tryd.underlying9 rfl) rfl rfl fun a E => ?_
          refine l_val E ok (y_gtr rfl rfl) rfl rfl fun a E => ?_
          refine l_val E ok (y_pickF rfl rfl) rfl rfl fun a E => ?_
          refine l_val E ok (y_move rfl) rfl rfl fun a E => ?_
          refine bsplit (decide ((r5.2.1.length : Int) > 6)) (fun hc59 => ?_) (fun hc59 => ?_)
          · replace hF := cond_t hc59 hF
            replace E := E.upd 62 hc59 rfl
            refine l_skip E rfl rfl fun a E => ?_
            refine l_skip E rfl rfl fun a E => ?_
            refine l_skip E rfl rfl fun a E => ?_
            refine l_val E ok (y_pickT rfl rfl) rfl rfl fun a E => ?_
            refine l_val E ok (y_assign rfl) rfl rfl fun a E => ?_
            refine wpList_nil ?_
            refine t_norm ?_
            refine c_if E rfl (fun _ => ?_) (fun h => by cases h)
            refine wp_seq ?_
            refine c_region ?_
            refine l_val E ok (y_loadAgg (cs := [(Value.bool r2.2), (Value.string (bs r5.1)), (Value.string (bs r5.2.1))]) agg_58 rfl rfl (Holds.own 0 rfl rfl)) rfl rfl fun a E => ?_
            refine l_storeB E ok 1 rfl rfl rfl inf_58 rfl rfl ⟨rfl, rfl, rfl, trivial⟩ rfl rfl fun w ok => ?_
            refine l_val E ok (y_assign rfl) rfl rfl fun a E => ?_
            refine wpList_nil ?_
            refine t_norm ?_
            refine wp_ret ?_
            refine b_ret ?_
            refine t_ret ?_
            have hret : decimal_split_R u m0 S ((Number.mk r2.2 r5.1 r5.2.1), false) a w := ⟨m0, [(Value.bool r2.2), (Value.string (bs r5.1)), (Value.string (bs r5.2.1))], le_m0, ok.drop.drop, E.d, ⟨rv_c (cs := [(Value.bool r2.2), (Value.string (bs r5.1)), (Value.string (bs r5.2.1))]) E ok rfl agg_58 rfl (Holds.own 1 rfl rfl), rv_t E rfl, trivial⟩, ⟨rfl, l7, l8⟩⟩
            obtain rfl := Option.some.inj hF
            exact fin _ _ hret
          replace hF := cond_f hc59 hF
          replace E := E.upd 62 hc59 rfl
          refine l_val E ok (y_move rfl) rfl rfl fun a E => ?_
          obtain ⟨r60, e61, hF⟩ := bnd hF
          refine l_call E go_58 rfl (decimal_digits_w N r5.2.1 l8 e61 hG ok) rfl rfl ?_
          rintro _ w ⟨rfl, ok⟩
          refine ⟨_, rfl, fun a E => ?_⟩
          refine l_val E ok (y_not rfl) rfl rfl fun a E => ?_
          refine l_val E ok (y_pickF rfl rfl) rfl rfl fun a E => ?_
          refine l_val E ok (y_assign rfl) rfl rfl fun a E => ?_
          refine wpList_nil ?_
          refine t_norm ?_
          refine c_if E rfl (fun hc62 => ?_) (fun hc62 => ?_)
          · replace hF := cond_t hc62 hF
            refine wp_seq ?_
            refine c_region ?_
            refine l_val E ok (y_loadAgg (cs := [(Value.bool r2.2), (Value.string (bs r5.1)), (Value.string (bs r5.2.1))]) agg_58 rfl rfl (Holds.own 0 rfl rfl)) rfl rfl fun a E => ?_
            refine l_storeB E ok 1 rfl rfl rfl inf_58 rfl rfl ⟨rfl, rfl, rfl, trivial⟩ rfl rfl fun w ok => ?_
            refine l_val E ok (y_assign rfl) rfl rfl fun a E => ?_
            refine wpList_nil ?_
            refine t_norm ?_
            refine wp_ret ?_
            refine b_ret ?_
            refine t_ret ?_
            have hret : decimal_split_R u m0 S ((Number.mk r2.2 r5.1 r5.2.1), false) a w := ⟨m0, [(Value.bool r2.2), (Value.string (bs r5.1)), (Value.string (bs r5.2.1))], le_m0, ok.drop.drop, E.d, ⟨rv_c (cs := [(Value.bool r2.2), (Value.string (bs r5.1)), (Value.string (bs r5.2.1))]) E ok rfl agg_58 rfl (Holds.own 1 rfl rfl), rv_t E rfl, trivial⟩, ⟨rfl, l7, l8⟩⟩
            obtain rfl := Option.some.inj hF
            exact fin _ _ hret
          replace hF := cond_f hc62 hF
          refine wp_skip ?_
          refine b_norm ?_
          refine t_norm ?_
          refine wp_seq ?_
          obtain ⟨o63, hJ, hF⟩ := bnd hF
          refine c_mono (Q' := fun e a w => e = .normal ∧ Ok u m0 ([(b9, Obj.cells [(Value.bool r2.2), (Value.string (bs r5.1)), (Value.string (bs r5.2.1))].toArray 58 (0, 0))] :: [(b1, Obj.cells [(Value.bool o63.2.negative), (Value.string (bs o63.2.whole)), (Value.string (bs o63.2.fraction))].toArray 58 (0, 0))] :: S) w ∧ Env 76 a [(2, (Value.pointer (some ⟨b1, 0, none⟩))), (3, (Value.bool o63.1))] ∧ o63.2.whole.length ≤ LIMS ∧ o63.2.fraction.length ≤ LIMS) ?_ ?_
          rotate_left
          · clear hJ
            intro e a w hO
            obtain ⟨rfl, ok, E, l69, l70⟩ := hO
            refine t_norm ?_
            refine wp_ret ?_
            have hret : decimal_split_R u m0 S (o63.2, o63.1) a w := ⟨m0, [(Value.bool o63.2.negative), (Value.string (bs o63.2.whole)), (Value.string (bs o63.2.fraction))], le_m0, ok.drop.drop, E.d, ⟨rv_c (cs := [(Value.bool o63.2.negative), (Value.string (bs o63.2.whole)), (Value.string (bs o63.2.fraction))]) E ok rfl agg_58 rfl (Holds.own 1 rfl rfl), rv_t E rfl, trivial⟩, ⟨rfl, l69, l70⟩⟩
            obtain rfl := Option.some.inj hF
            exact fin _ _ hret
          replace hF := hJ
          clear hJ
          refine bsplit (!r2.2) (fun hc66 => ?_) (fun hc66 => ?_)
          · replace hF := cond_t hc66 hF
            obtain rfl := Option.some.inj hF
            refine k_begin [0] (Cls u m0 ([(b9, Obj.cells [(Value.bool r2.2), (Value.string (bs r5.1)), (Value.string (bs r5.2.1))].toArray 58 (0, 0))] :: [(b1, Obj.cells [(Value.bool false), (Value.string (bs ([]))), (Value.string (bs ([])))].toArray 58 (0, 0))] :: [])) (Cls u m0 ([(b9, Obj.cells [(Value.bool r2.2), (Value.string (bs r5.1)), (Value.string (bs r5.2.1))].toArray 58 (0, 0))] :: [])) (by kernel_rfl) ?_
            intro w hw
            replace ok := okdrew ok hw
            clear hw
            refine k_next (cl1 ⟨m0, _, le_m0, ok, ⟨memAt 0 rfl, memAt 1 rfl, trivial⟩⟩ ⟨m0, _, le_m0, ok, ⟨memAt 0 rfl, trivial⟩⟩) fun hT => ?_
            refine k_takeN 0 E rfl (by kernel_rfl) nP hT (y_loadAgg (cs := [(Value.bool r2.2), (Value.string (bs r5.1)), (Value.string (bs r5.2.1))]) agg_58 rfl rfl (Holds.cown 0 rfl rfl)) rfl rfl fun a E => ?_
            refine k_take 1 E rfl (by kernel_rfl) nP hT (y_move rfl) rfl rfl fun a E => ?_
            refine k_take 2 E rfl (by kernel_rfl) nP hT (y_not rfl) rfl rfl fun a E => ?_
            refine k_take 3 E rfl (by kernel_rfl) nP hT (y_move rfl) rfl rfl fun a E => ?_
            replace E := E.upd 71 hc66 rfl
            refine k_skip 4 false E rfl (by kernel_rfl) nP hT rfl rfl fun a E => ?_
            refine k_skip 5 false E rfl (by kernel_rfl) nP hT rfl rfl fun a E => ?_
            refine k_skip 6 false E rfl (by kernel_rfl) nP hT rfl rfl fun a E => ?_
            refine k_take 7 E rfl (by kernel_rfl) nP hT (y_pickT rfl rfl) rfl rfl fun a E => ?_
            refine k_all [8] (by kernel_rfl) rfl (one_c ?_)
            · refine wpOp_of_list (o := _) rfl ?_
              refine l_storeB E ok 1 rfl rfl rfl inf_58 rfl rfl ⟨rfl, rfl, rfl, trivial⟩ rfl rfl fun w ok => ?_
              refine wpList_nil ?_
              refine t_norm ?_
              refine k_next (cl2 (by kernel_rfl) ⟨m0, _, le_m0, ok, ⟨memAt 0 rfl, trivial⟩⟩) fun hT => ?_
              refine k_take 9 E rfl (by kernel_rfl) nP hT (y_assign rfl) rfl rfl fun a E => ?_
              refine k_done (by kernel_rfl) ?_
              exact ⟨rfl, ⟨ok, E.keep [2, 3], l7, l8⟩⟩
          replace hF := cond_f hc66 hF
          obtain ⟨r67, e68, hF⟩ := bnd hF
          obtain rfl := Option.some.inj hF
          refine k_begin [0] (Cls u m0 ([(b9, Obj.cells [(Value.bool r2.2), (Value.string (bs r5.1)), (Value.string (bs r5.2.1))].toArray 58 (0, 0))] :: [(b1, Obj.cells [(Value.bool false), (Value.string (bs ([]))), (Value.string (bs ([])))].toArray 58 (0, 0))] :: [])) (Cls u m0 ([(b9, Obj.cells [(Value.bool r2.2), (Value.string (bs r5.1)), (Value.string (bs r5.2.1))].toArray 58 (0, 0))] :: [])) (by kernel_rfl) ?_
          intro w hw
          replace ok := okdrew ok hw
          clear hw
          refine k_next (cl1 ⟨m0, _, le_m0, ok, ⟨memAt 0 rfl, memAt 1 rfl, trivial⟩⟩ ⟨m0, _, le_m0, ok, ⟨memAt 0 rfl, trivial⟩⟩) fun hT => ?_
          refine k_takeN 0 E rfl (by kernel_rfl) nP hT (y_loadAgg (cs := [(Value.bool r2.2), (Value.string (bs r5.1)), (Value.string (bs r5.2.1))]) agg_58 rfl rfl (Holds.cown 0 rfl rfl)) rfl rfl fun a E => ?_
          refine k_take 1 E rfl (by kernel_rfl) nP hT (y_move rfl) rfl rfl fun a E => ?_
          refine k_take 2 E rfl (by kernel_rfl) nP hT (y_not rfl) rfl rfl fun a E => ?_
          refine k_take 3 E rfl (by kernel_rfl) nP hT (y_move rfl) rfl rfl fun a E => ?_
          replace E := E.upd 71 hc66 rfl
          refine k_take 4 E rfl (by kernel_rfl) nP hT (y_loadAgg (cs := [(Value.bool r2.2), (Value.string (bs r5.1)), (Value.string (bs r5.2.1))]) agg_58 rfl rfl (Holds.cown 0 rfl rfl)) rfl rfl fun a E => ?_
          refine k_all [5] (by kernel_rfl) rfl (one_c ?_)
          · refine wpOp_of_list (o := _) rfl ?_
            refine l_call E go_59 rfl (decimal_number_zero_w N _ (Number.mk r2.2 r5.1 r5.2.1) ⟨rfl, l7, l8⟩ e68 hG ok) rfl rfl ?_
            rintro _ w ⟨rfl, ok⟩
            refine ⟨_, rfl, fun a E => ?_⟩
            refine wpList_nil ?_
            refine t_norm ?_
            refine k_next (cl1 ⟨m0, _, le_m0, ok, ⟨memAt 0 rfl, memAt 1 rfl, trivial⟩⟩ ⟨m0, _, le_m0, ok, ⟨memAt 0 rfl, trivial⟩⟩) fun hT => ?_
            refine k_take 6 E rfl (by kernel_rfl) nP hT (y_not rfl) rfl rfl fun a E => ?_
            refine k_take 7 E rfl (by kernel_rfl) nP hT (y_pickF rfl rfl) rfl rfl fun a E => ?_
            refine k_all [8] (by kernel_rfl) rfl (one_c ?_)
            · refine wpOp_of_list (o := _) rfl ?_
              refine l_storeB E ok 1 rfl rfl rfl inf_58 rfl rfl ⟨rfl, rfl, rfl, trivial⟩ rfl rfl fun w ok => ?_
              refine wpList_nil ?_
              refine t_norm ?_
              refine k_next (cl2 (by kernel_rfl) ⟨m0, _, le_m0, ok, ⟨memAt 0 rfl, trivial⟩⟩) fun hT => ?_
              refine k_take 9 E rfl (by kernel_rfl) nP hT (y_assign rfl) rfl rfl fun a E => ?_
              refine k_done (by kernel_rfl) ?_
              exact ⟨rfl, ⟨ok, E.keep [2, 3], l7, l8⟩⟩
      replace hF := cond_t hc45 hF
      replace E := E.upd 52 hc45 rfl
      refine l_val E ok (y_move rfl) rfl rfl fun a E => ?_
      refine l_val E ok (y_slen Tryd.underlying9 rfl) rfl rfl fun a E => ?_
      refine l_val E ok (y_eql rfl rfl) rfl rfl fun a E => ?_
      refine l_val E ok (y_pickT rfl rfl) rfl rfl fun a E => ?_
      refine l_val E ok (y_move rfl) rfl rfl fun a E => ?_
      refine bsplit ((r5.2.1.length : Int) == 0) (fun hc46 => ?_) (fun hc46 => ?_)
      · replace hF := cond_t hc46 hF
        replace E := E.upd 57 hc46 rfl
        refine l_skip E rfl rfl fun a E => ?_
        refine l_skip E rfl rfl fun a E => ?_
        refine l_skip E rfl rfl fun a E => ?_
        refine l_val E ok (y_pickT rfl rfl) rfl rfl fun a E => ?_
        refine l_val E ok (y_move rfl) rfl rfl fun a E => ?_
        refine l_skip E rfl rfl fun a E => ?_
        refine l_skip E rfl rfl fun a E => ?_
        refine l_skip E rfl rfl fun a E => ?_
        refine l_val E ok (y_pickT rfl rfl) rfl rfl fun a E => ?_
        refine l_val E ok (y_assign rfl) rfl rfl fun a E => ?_
        refine wpList_nil ?_
        refine t_norm ?_
        refine c_if E rfl (fun _ => ?_) (fun h => by cases h)
        refine wp_seq ?_
        refine c_region ?_
        refine l_val E ok (y_loadAgg (cs := [(Value.bool r2.2), (Value.string (bs r5.1)), (Value.string (bs r5.2.1))]) agg_58 rfl rfl (Holds.own 0 rfl rfl)) rfl rfl fun a E => ?_
        refine l_storeB E ok 1 rfl rfl rfl inf_58 rfl rfl ⟨rfl, rfl, rfl, trivial⟩ rfl rfl fun w ok => ?_
        refine l_val E ok (y_assign rfl) rfl rfl fun a E => ?_
        refine wpList_nil ?_
        refine t_norm ?_
        refine wp_ret ?_
        refine b_ret ?_
        refine t_ret ?_
        have hret : decimal_split_R u m0 S ((Number.mk r2.2 r5.1 r5.2.1), false) a w := ⟨m0, [(Value.bool r2.2), (Value.string (bs r5.1)), (Value.string (bs r5.2.1))], le_m0, ok.drop.drop, E.d, ⟨rv_c (cs := [(Value.bool r2.2), (Value.string (bs r5.1)), (Value.string (bs r5.2.1))]) E ok rfl agg_58 rfl (Holds.own 1 rfl rfl), rv_t E rfl, trivial⟩, ⟨rfl, l7, l8⟩⟩
        obtain rfl := Option.some.inj hF
        exact fin _ _ hret
      replace hF := cond_f hc46 hF
      replace E := E.upd 57 hc46 rfl
      refine l_val E ok (y_move rfl) rfl rfl fun a E => ?_
      refine l_val E ok (y_slen Tryd.underlying9 rfl) rfl rfl fun a E => ?_
      refine l_val E ok (y_gtr rfl rfl) rfl rfl fun a E => ?_
      refine l_val E ok (y_pickF rfl rfl) rfl rfl fun a E => ?_
      refine l_val E ok (y_move rfl) rfl rfl fun a E => ?_
      refine bsplit (decide ((r5.2.1.length : Int) > 6)) (fun hc47 => ?_) (fun hc47 => ?_)
      · replace hF := cond_t hc47 hF
        replace E := E.upd 62 hc47 rfl
        refine l_skip E rfl rfl fun a E => ?_
        refine l_skip E rfl rfl fun a E => ?_
        refine l_skip E rfl rfl fun a E => ?_
        refine l_val E ok (y_pickT rfl rfl) rfl rfl fun a E => ?_
        refine l_val E ok (y_assign rfl) rfl rfl fun a E => ?_
        refine wpList_nil ?_
        refine t_norm ?_
        refine c_if E rfl (fun _ => ?_) (fun h => by cases h)
        refine wp_seq ?_
        refine c_region ?_
        refine l_val E ok (y_loadAgg (cs := [(Value.bool r2.2), (Value.string (bs r5.1)), (Value.string (bs r5.2.1))]) agg_58 rfl rfl (Holds.own 0 rfl rfl)) rfl rfl fun a E => ?_
        refine l_storeB E ok 1 rfl rfl rfl inf_58 rfl rfl ⟨rfl, rfl, rfl, trivial⟩ rfl rfl fun w ok => ?_
        refine l_val E ok (y_assign rfl) rfl rfl fun a E => ?_
        refine wpList_nil ?_
        refine t_norm ?_
        refine wp_ret ?_
        refine b_ret ?_
        refine t_ret ?_
        have hret : decimal_split_R u m0 S ((Number.mk r2.2 r5.1 r5.2.1), false) a w := ⟨m0, [(Value.bool r2.2), (Value.string (bs r5.1)), (Value.string (bs r5.2.1))], le_m0, ok.drop.drop, E.d, ⟨rv_c (cs := [(Value.bool r2.2), (Value.string (bs r5.1)), (Value.string (bs r5.2.1))]) E ok rfl agg_58 rfl (Holds.own 1 rfl rfl), rv_t E rfl, trivial⟩, ⟨rfl, l7, l8⟩⟩
        obtain rfl := Option.some.inj hF
        exact fin _ _ hret
      replace hF := cond_f hc47 hF
      replace E := E.upd 62 hc47 rfl
      refine l_val E ok (y_move rfl) rfl rfl fun a E => ?_
      obtain ⟨r48, e49, hF⟩ := bnd hF
      refine l_call E go_58 rfl (decimal_digits_w N r5.2.1 l8 e49 hG ok) rfl rfl ?_
      rintro _ w ⟨rfl, ok⟩
      refine ⟨_, rfl, fun a E => ?_⟩
      refine l_val E ok (y_not rfl) rfl rfl fun a E => ?_
      refine l_val E ok (y_pickF rfl rfl) rfl rfl fun a E => ?_
      refine l_val E ok (y_assign rfl) rfl rfl fun a E => ?_
      refine wpList_nil ?_
      refine t_norm ?_
      refine c_if E rfl (fun hc50 => ?_) (fun hc50 => ?_)
      · replace hF := cond_t hc50 hF
        refine wp_seq ?_
        refine c_region ?_
        refine l_val E ok (y_loadAgg (cs := [(Value.bool r2.2), (Value.string (bs r5.1)), (Value.string (bs r5.2.1))]) agg_58 rfl rfl (Holds.own 0 rfl rfl)) rfl rfl fun a E => ?_
        refine l_storeB E ok 1 rfl rfl rfl inf_58 rfl rfl ⟨rfl, rfl, rfl, trivial⟩ rfl rfl fun w ok => ?_
        refine l_val E ok (y_assign rfl) rfl rfl fun a E => ?_
        refine wpList_nil ?_
        refine t_norm ?_
        refine wp_ret ?_
        refine b_ret ?_
        refine t_ret ?_
        have hret : decimal_split_R u m0 S ((Number.mk r2.2 r5.1 r5.2.1), false) a w := ⟨m0, [(Value.bool r2.2), (Value.string (bs r5.1)), (Value.string (bs r5.2.1))], le_m0, ok.drop.drop, E.d, ⟨rv_c (cs := [(Value.bool r2.2), (Value.string (bs r5.1)), (Value.string (bs r5.2.1))]) E ok rfl agg_58 rfl (Holds.own 1 rfl rfl), rv_t E rfl, trivial⟩, ⟨rfl, l7, l8⟩⟩
        obtain rfl := Option.some.inj hF
        exact fin _ _ hret
      replace hF := cond_f hc50 hF
      refine wp_skip ?_
      refine b_norm ?_
      refine t_norm ?_
      refine wp_seq ?_
      obtain ⟨o51, hJ, hF⟩ := bnd hF
      refine c_mono (Q' := fun e a w => e = .normal ∧ Ok u m0 ([(b9, Obj.cells [(Value.bool r2.2), (Value.string (bs r5.1)), (Value.string (bs r5.2.1))].toArray 58 (0, 0))] :: [(b1, Obj.cells [(Value.bool o51.2.negative), (Value.string (bs o51.2.whole)), (Value.string (bs o51.2.fraction))].toArray 58 (0, 0))] :: S) w ∧ Env 76 a [(2, (Value.pointer (some ⟨b1, 0, none⟩))), (3, (Value.bool o51.1))] ∧ o51.2.whole.length ≤ LIMS ∧ o51.2.fraction.length ≤ LIMS) ?_ ?_
      rotate_left
      · clear hJ
        intro e a w hO
        obtain ⟨rfl, ok, E, l57, l58⟩ := hO
        refine t_norm ?_
        refine wp_ret ?_
        have hret : decimal_split_R u m0 S (o51.2, o51.1) a w := ⟨m0, [(Value.bool o51.2.negative), (Value.string (bs o51.2.whole)), (Value.string (bs o51.2.fraction))], le_m0, ok.drop.drop, E.d, ⟨rv_c (cs := [(Value.bool o51.2.negative), (Value.string (bs o51.2.whole)), (Value.string (bs o51.2.fraction))]) E ok rfl agg_58 rfl (Holds.own 1 rfl rfl), rv_t E rfl, trivial⟩, ⟨rfl, l57, l58⟩⟩
        obtain rfl := Option.some.inj hF
        exact fin _ _ hret
      replace hF := hJ
      clear hJ
      refine bsplit (!r2.2) (fun hc54 => ?_) (fun hc54 => ?_)
      · replace hF := cond_t hc54 hF
        obtain rfl := Option.some.inj hF
        refine k_begin [0] (Cls u m0 ([(b9, Obj.cells [(Value.bool r2.2), (Value.string (bs r5.1)), (Value.string (bs r5.2.1))].toArray 58 (0, 0))] :: [(b1, Obj.cells [(Value.bool false), (Value.string (bs ([]))), (Value.string (bs ([])))].toArray 58 (0, 0))] :: [])) (Cls u m0 ([(b9, Obj.cells [(Value.bool r2.2), (Value.string (bs r5.1)), (Value.string (bs r5.2.1))].toArray 58 (0, 0))] :: [])) (by kernel_rfl) ?_
        intro w hw
        replace ok := okdrew ok hw
        clear hw
        refine k_next (cl1 ⟨m0, _, le_m0, ok, ⟨memAt 0 rfl, memAt 1 rfl, trivial⟩⟩ ⟨m0, _, le_m0, ok, ⟨memAt 0 rfl, trivial⟩⟩) fun hT => ?_
        refine k_takeN 0 E rfl (by kernel_rfl) nP hT (y_loadAgg (cs := [(Value.bool r2.2), (Value.string (bs r5.1)), (Value.string (bs r5.2.1))]) agg_58 rfl rfl (Holds.cown 0 rfl rfl)) rfl rfl fun a E => ?_
        refine k_take 1 E rfl (by kernel_rfl) nP hT (y_move rfl) rfl rfl fun a E => ?_
        refine k_take 2 E rfl (by kernel_rfl) nP hT (y_not rfl) rfl rfl fun a E => ?_
        refine k_take 3 E rfl (by kernel_rfl) nP hT (y_move rfl) rfl rfl fun a E => ?_
        replace E := E.upd 71 hc54 rfl
        refine k_skip 4 false E rfl (by kernel_rfl) nP hT rfl rfl fun a E => ?_
        refine k_skip 5 false E rfl (by kernel_rfl) nP hT rfl rfl fun a E => ?_
        refine k_skip 6 false E rfl (by kernel_rfl) nP hT rfl rfl fun a E => ?_
        refine k_take 7 E rfl (by kernel_rfl) nP hT (y_pickT rfl rfl) rfl rfl fun a E => ?_
        refine k_all [8] (by kernel_rfl) rfl (one_c ?_)
        · refine wpOp_of_list (o := _) rfl ?_
          refine l_storeB E ok 1 rfl rfl rfl inf_58 rfl rfl ⟨rfl, rfl, rfl, trivial⟩ rfl rfl fun w ok => ?_
          refine wpList_nil ?_
          refine t_norm ?_
          refine k_next (cl2 (by kernel_rfl) ⟨m0, _, le_m0, ok, ⟨memAt 0 rfl, trivial⟩⟩) fun hT => ?_
          refine k_take 9 E rfl (by kernel_rfl) nP hT (y_assign rfl) rfl rfl fun a E => ?_
          refine k_done (by kernel_rfl) ?_
          exact ⟨rfl, ⟨ok, E.keep [2, 3], l7, l8⟩⟩
      replace hF := cond_f hc54 hF
      obtain ⟨r55, e56, hF⟩ := bnd hF
      obtain rfl := Option.some.inj hF
      refine k_begin [0] (Cls u m0 ([(b9, Obj.cells [(Value.bool r2.2), (Value.string (bs r5.1)), (Value.string (bs r5.2.1))].toArray 58 (0, 0))] :: [(b1, Obj.cells [(Value.bool false), (Value.string (bs ([]))), (Value.string (bs ([])))].toArray 58 (0, 0))] :: [])) (Cls u m0 ([(b9, Obj.cells [(Value.bool r2.2), (Value.string (bs r5.1)), (Value.string (bs r5.2.1))].toArray 58 (0, 0))] :: [])) (by kernel_rfl) ?_
      intro w hw
      replace ok := okdrew ok hw
      clear hw
      refine k_next (cl1 ⟨m0, _, le_m0, ok, ⟨memAt 0 rfl, memAt 1 rfl, trivial⟩⟩ ⟨m0, _, le_m0, ok, ⟨memAt 0 rfl, trivial⟩⟩) fun hT => ?_
      refine k_takeN 0 E rfl (by kernel_rfl) nP hT (y_loadAgg (cs := [(Value.bool r2.2), (Value.string (bs r5.1)), (Value.string (bs r5.2.1))]) agg_58 rfl rfl (Holds.cown 0 rfl rfl)) rfl rfl fun a E => ?_
      refine k_take 1 E rfl (by kernel_rfl) nP hT (y_move rfl) rfl rfl fun a E => ?_
      refine k_take 2 E rfl (by kernel_rfl) nP hT (y_not rfl) rfl rfl fun a E => ?_
      refine k_take 3 E rfl (by kernel_rfl) nP hT (y_move rfl) rfl rfl fun a E => ?_
      replace E := E.upd 71 hc54 rfl
      refine k_take 4 E rfl (by kernel_rfl) nP hT (y_loadAgg (cs := [(Value.bool r2.2), (Value.string (bs r5.1)), (Value.string (bs r5.2.1))]) agg_58 rfl rfl (Holds.cown 0 rfl rfl)) rfl rfl fun a E => ?_
      refine k_all [5] (by kernel_rfl) rfl (one_c ?_)
      · refine wpOp_of_list (o := _) rfl ?_
        refine l_call E go_59 rfl (decimal_number_zero_w N _ (Number.mk r2.2 r5.1 r5.2.1) ⟨rfl, l7, l8⟩ e56 hG ok) rfl rfl ?_
        rintro _ w ⟨rfl, ok⟩
        refine ⟨_, rfl, fun a E => ?_⟩
        refine wpList_nil ?_
        refine t_norm ?_
        refine k_next (cl1 ⟨m0, _, le_m0, ok, ⟨memAt 0 rfl, memAt 1 rfl, trivial⟩⟩ ⟨m0, _, le_m0, ok, ⟨memAt 0 rfl, trivial⟩⟩) fun hT => ?_
        refine k_take 6 E rfl (by kernel_rfl) nP hT (y_not rfl) rfl rfl fun a E => ?_
        refine k_take 7 E rfl (by kernel_rfl) nP hT (y_pickF rfl rfl) rfl rfl fun a E => ?_
        refine k_all [8] (by kernel_rfl) rfl (one_c ?_)
        · refine wpOp_of_list (o := _) rfl ?_
          refine l_storeB E ok 1 rfl rfl rfl inf_58 rfl rfl ⟨rfl, rfl, rfl, trivial⟩ rfl rfl fun w ok => ?_
          refine wpList_nil ?_
          refine t_norm ?_
          refine k_next (cl2 (by kernel_rfl) ⟨m0, _, le_m0, ok, ⟨memAt 0 rfl, trivial⟩⟩) fun hT => ?_
          refine k_take 9 E rfl (by kernel_rfl) nP hT (y_assign rfl) rfl rfl fun a E => ?_
          refine k_done (by kernel_rfl) ?_
          exact ⟨rfl, ⟨ok, E.keep [2, 3], l7, l8⟩⟩
  replace hF := cond_t hc15 hF
  replace E := E.upd 43 hc15 rfl
  refine l_val E ok (y_move rfl) rfl rfl fun a E => ?_
  obtain ⟨c16, e17, hF⟩ := bnd hF
  refine l_val E ok (y_index Tryd.underlying9 rfl rfl e17) rfl rfl fun a E => ?_
  refine l_val E ok (y_eql rfl rfl) rfl rfl fun a E => ?_
  refine l_val E ok (y_pickT rfl rfl) rfl rfl fun a E => ?_
  refine l_val E ok (y_pickF rfl rfl) rfl rfl fun a E => ?_
  refine l_val E ok (y_assign rfl) rfl rfl fun a E => ?_
  refine wpList_nil ?_
  refine t_norm ?_
  refine c_if E rfl (fun hc18 => ?_) (fun hc18 => ?_)
  · replace hF := cond_t hc18 hF
    refine wp_seq ?_
    refine c_region ?_
    refine l_val E ok (y_loadAgg (cs := [(Value.bool r2.2), (Value.string (bs r5.1)), (Value.string (bs r5.2.1))]) agg_58 rfl rfl (Holds.own 0 rfl rfl)) rfl rfl fun a E => ?_
    refine l_storeB E ok 1 rfl rfl rfl inf_58 rfl rfl ⟨rfl, rfl, rfl, trivial⟩ rfl rfl fun w ok => ?_
    refine l_val E ok (y_assign rfl) rfl rfl fun a E => ?_
    refine wpList_nil ?_
    refine t_norm ?_
    refine wp_ret ?_
    refine b_ret ?_
    refine t_ret ?_
    have hret : decimal_split_R u m0 S ((Number.mk r2.2 r5.1 r5.2.1), false) a w := ⟨m0, [(Value.bool r2.2), (Value.string (bs r5.1)), (Value.string (bs r5.2.1))], le_m0, ok.drop.drop, E.d, ⟨rv_c (cs := [(Value.bool r2.2), (Value.string (bs r5.1)), (Value.string (bs r5.2.1))]) E ok rfl agg_58 rfl (Holds.own 1 rfl rfl), rv_t E rfl, trivial⟩, ⟨rfl, l7, l8⟩⟩
    obtain rfl := Option.some.inj hF
    exact fin _ _ hret
  replace hF := cond_f hc18 hF
  refine wp_seq ?_
  refine c_region ?_
  refine l_val E ok (y_move rfl) rfl rfl fun a E => ?_
  refine l_val E ok (y_move rfl) rfl rfl fun a E => ?_
  refine bsplit r5.2.2 (fun hc19 => ?_) (fun hc19 => ?_)
  rotate_left
  · as_aux_lemma =>
      replace hF := cond_f hc19 hF
      replace E := E.upd 52 hc19 rfl
      refine l_skip E rfl rfl fun a E => ?_
      refine l_skip E rfl rfl fun a E => ?_
      refine l_skip E rfl rfl fun a E => ?_
      refine l_val E ok (y_pickF rfl rfl) rfl rfl fun a E => ?_
      refine l_val E ok (y_move rfl) rfl rfl fun a E => ?_
      refine l_val E ok (y_move rfl) rfl rfl fun a E => ?_
      refine l_val E ok (y_slen Tryd.underlying9 rfl) rfl rfl fun a E => ?_
      refine l_val E ok (y_gtr rfl rfl) rfl rfl fun a E => ?_
      refine l_val E ok (y_pickF rfl rfl) rfl rfl fun a E => ?_
      refine l_val E ok (y_move rfl) rfl rfl fun a E => ?_
      refine bsplit (decide ((r5.2.1.length : Int) > 6)) (fun hc33 => ?_) (fun hc33 => ?_)
      · replace hF := cond_t hc33 hF
        replace E := E.upd 62 hc33 rfl
        refine l_skip E rfl rfl fun a E => ?_
        refine l_skip E rfl rfl fun a E => ?_
        refine l_skip E rfl rfl fun a E => ?_
        refine l_val E ok (y_pickT rfl rfl) rfl rfl fun a E => ?_
        refine l_val E ok (y_assign rfl) rfl rfl fun a E => ?_
        refine wpList_nil ?_
        refine t_norm ?_
        refine c_if E rfl (fun _ => ?_) (fun h => by cases h)
        refine wp_seq ?_
        refine c_region ?_
        refine l_val E ok (y_loadAgg (cs := [(Value.bool r2.2), (Value.string (bs r5.1)), (Value.string (bs r5.2.1))]) agg_58 rfl rfl (Holds.own 0 rfl rfl)) rfl rfl fun a E => ?_
        refine l_storeB E ok 1 rfl rfl rfl inf_58 rfl rfl ⟨rfl, rfl, rfl, trivial⟩ rfl rfl fun w ok => ?_
        refine l_val E ok (y_assign rfl) rfl rfl fun a E => ?_
        refine wpList_nil ?_
        refine t_norm ?_
        refine wp_ret ?_
        refine b_ret ?_
        refine t_ret ?_
        have hret : decimal_split_R u m0 S ((Number.mk r2.2 r5.1 r5.2.1), false) a w := ⟨m0, [(Value.bool r2.2), (Value.string (bs r5.1)), (Value.string (bs r5.2.1))], le_m0, ok.drop.drop, E.d, ⟨rv_c (cs := [(Value.bool r2.2), (Value.string (bs r5.1)), (Value.string (bs r5.2.1))]) E ok rfl agg_58 rfl (Holds.own 1 rfl rfl), rv_t E rfl, trivial⟩, ⟨rfl, l7, l8⟩⟩
        obtain rfl := Option.some.inj hF
        exact fin _ _ hret
      replace hF := cond_f hc33 hF
      replace E := E.upd 62 hc33 rfl
      refine l_val E ok (y_move rfl) rfl rfl fun a E => ?_
      obtain ⟨r34, e35, hF⟩ := bnd hF
      refine l_call E go_58 rfl (decimal_digits_w N r5.2.1 l8 e35 hG ok) rfl rfl ?_
      rintro _ w ⟨rfl, ok⟩
      refine ⟨_, rfl, fun a E => ?_⟩
      refine l_val E ok (y_not rfl) rfl rfl fun a E => ?_
      refine l_val E ok (y_pickF rfl rfl) rfl rfl fun a E => ?_
      refine l_val E ok (y_assign rfl) rfl rfl fun a E => ?_
      refine wpList_nil ?_
      refine t_norm ?_
      refine c_if E rfl (fun hc36 => ?_) (fun hc36 => ?_)
      · replace hF := cond_t hc36 hF
        refine wp_seq ?_
        refine c_region ?_
        refine l_val E ok (y_loadAgg (cs := [(Value.bool r2.2), (Value.string (bs r5.1)), (Value.string (bs r5.2.1))]) agg_58 rfl rfl (Holds.own 0 rfl rfl)) rfl rfl fun a E => ?_
        refine l_storeB E ok 1 rfl rfl rfl inf_58 rfl rfl ⟨rfl, rfl, rfl, trivial⟩ rfl rfl fun w ok => ?_
        refine l_val E ok (y_assign rfl) rfl rfl fun a E => ?_
        refine wpList_nil ?_
        refine t_norm ?_
        refine wp_ret ?_
        refine b_ret ?_
        refine t_ret ?_
        have hret : decimal_split_R u m0 S ((Number.mk r2.2 r5.1 r5.2.1), false) a w := ⟨m0, [(Value.bool r2.2), (Value.string (bs r5.1)), (Value.string (bs r5.2.1))], le_m0, ok.drop.drop, E.d, ⟨rv_c (cs := [(Value.bool r2.2), (Value.string (bs r5.1)), (Value.string (bs r5.2.1))]) E ok rfl agg_58 rfl (Holds.own 1 rfl rfl), rv_t E rfl, trivial⟩, ⟨rfl, l7, l8⟩⟩
        obtain rfl := Option.some.inj hF
        exact fin _ _ hret
      replace hF := cond_f hc36 hF
      refine wp_skip ?_
      refine b_norm ?_
      refine t_norm ?_
      refine wp_seq ?_
      obtain ⟨o37, hJ, hF⟩ := bnd hF
      refine c_mono (Q' := fun e a w => e = .normal ∧ Ok u m0 ([(b9, Obj.cells [(Value.bool r2.2), (Value.string (bs r5.1)), (Value.string (bs r5.2.1))].toArray 58 (0, 0))] :: [(b1, Obj.cells [(Value.bool o37.2.negative), (Value.string (bs o37.2.whole)), (Value.string (bs o37.2.fraction))].toArray 58 (0, 0))] :: S) w ∧ Env 76 a [(2, (Value.pointer (some ⟨b1, 0, none⟩))), (3, (Value.bool o37.1))] ∧ o37.2.whole.length ≤ LIMS ∧ o37.2.fraction.length ≤ LIMS) ?_ ?_
      rotate_left
      · clear hJ
        intro e a w hO
        obtain ⟨rfl, ok, E, l43, l44⟩ := hO
        refine t_norm ?_
        refine wp_ret ?_
        have hret : decimal_split_R u m0 S (o37.2, o37.1) a w := ⟨m0, [(Value.bool o37.2.negative), (Value.string (bs o37.2.whole)), (Value.string (bs o37.2.fraction))], le_m0, ok.drop.drop, E.d, ⟨rv_c (cs := [(Value.bool o37.2.negative), (Value.string (bs o37.2.whole)), (Value.string (bs o37.2.fraction))]) E ok rfl agg_58 rfl (Holds.own 1 rfl rfl), rv_t E rfl, trivial⟩, ⟨rfl, l43, l44⟩⟩
        obtain rfl := Option.some.inj hF
        exact fin _ _ hret
      replace hF := hJ
      clear hJ
      refine bsplit (!r2.2) (fun hc40 => ?_) (fun hc40 => ?_)
      · replace hF := cond_t hc40 hF
        obtain rfl := Option.some.inj hF
        refine k_begin [0] (Cls u m0 ([(b9, Obj.cells [(Value.bool r2.2), (Value.string (bs r5.1)), (Value.string (bs r5.2.1))].toArray 58 (0, 0))] :: [(b1, Obj.cells [(Value.bool false), (Value.string (bs ([]))), (Value.string (bs ([])))].toArray 58 (0, 0))] :: [])) (Cls u m0 ([(b9, Obj.cells [(Value.bool r2.2), (Value.string (bs r5.1)), (Value.string (bs r5.2.1))].toArray 58 (0, 0))] :: [])) (by kernel_rfl) ?_
        intro w hw
        replace ok := okdrew ok hw
        clear hw
        refine k_next (cl1 ⟨m0, _, le_m0, ok, ⟨memAt 0 rfl, memAt 1 rfl, trivial⟩⟩ ⟨m0, _, le_m0, ok, ⟨memAt 0 rfl, trivial⟩⟩) fun hT => ?_
        refine k_takeN 0 E rfl (by kernel_rfl) nP hT (y_loadAgg (cs := [(Value.bool r2.2), (Value.string (bs r5.1)), (Value.string (bs r5.2.1))]) agg_58 rfl rfl (Holds.cown 0 rfl rfl)) rfl rfl fun a E => ?_
        refine k_take 1 E rfl (by kernel_rfl) nP hT (y_move rfl) rfl rfl fun a E => ?_
        refine k_take 2 E rfl (by kernel_rfl) nP hT (y_not rfl) rfl rfl fun a E => ?_
        refine k_take 3 E rfl (by kernel_rfl) nP hT (y_move rfl) rfl rfl fun a E => ?_
        replace E := E.upd 71 hc40 rfl
        refine k_skip 4 false E rfl (by kernel_rfl) nP hT rfl rfl fun a E => ?_
        refine k_skip 5 false E rfl (by kernel_rfl) nP hT rfl rfl fun a E => ?_
        refine k_skip 6 false E rfl (by kernel_rfl) nP hT rfl rfl fun a E => ?_
        refine k_take 7 E rfl (by kernel_rfl) nP hT (y_pickT rfl rfl) rfl rfl fun a E => ?_
        refine k_all [8] (by kernel_rfl) rfl (one_c ?_)
        · refine wpOp_of_list (o := _) rfl ?_
          refine l_storeB E ok 1 rfl rfl rfl inf_58 rfl rfl ⟨rfl, rfl, rfl, trivial⟩ rfl rfl fun w ok => ?_
          refine wpList_nil ?_
          refine t_norm ?_
          refine k_next (cl2 (by kernel_rfl) ⟨m0, _, le_m0, ok, ⟨memAt 0 rfl, trivial⟩⟩) fun hT => ?_
          refine k_take 9 E rfl (by kernel_rfl) nP hT (y_assign rfl) rfl rfl fun a E => ?_
          refine k_done (by kernel_rfl) ?_
          exact ⟨rfl, ⟨ok, E.keep [2, 3], l7, l8⟩⟩
      replace hF := cond_f hc40 hF
      obtain ⟨r41, e42, hF⟩ := bnd hF
      obtain rfl := Option.some.inj hF
      refine k_begin [0] (Cls u m0 ([(b9, Obj.cells [(Value.bool r2.2), (Value.string (bs r5.1)), (Value.string (bs r5.2.1))].toArray 58 (0, 0))] :: [(b1, Obj.cells [(Value.bool false), (Value.string (bs ([]))), (Value.string (bs ([])))].toArray 58 (0, 0))] :: [])) (Cls u m0 ([(b9, Obj.cells [(Value.bool r2.2), (Value.string (bs r5.1)), (Value.string (bs r5.2.1))].toArray 58 (0, 0))] :: [])) (by kernel_rfl) ?_
      intro w hw
      replace ok := okdrew ok hw
      clear hw
      refine k_next (cl1 ⟨m0, _, le_m0, ok, ⟨memAt 0 rfl, memAt 1 rfl, trivial⟩⟩ ⟨m0, _, le_m0, ok, ⟨memAt 0 rfl, trivial⟩⟩) fun hT => ?_
      refine k_takeN 0 E rfl (by kernel_rfl) nP hT (y_loadAgg (cs := [(Value.bool r2.2), (Value.string (bs r5.1)), (Value.string (bs r5.2.1))]) agg_58 rfl rfl (Holds.cown 0 rfl rfl)) rfl rfl fun a E => ?_
      refine k_take 1 E rfl (by kernel_rfl) nP hT (y_move rfl) rfl rfl fun a E => ?_
      refine k_take 2 E rfl (by kernel_rfl) nP hT (y_not rfl) rfl rfl fun a E => ?_
      refine k_take 3 E rfl (by kernel_rfl) nP hT (y_move rfl) rfl rfl fun a E => ?_
      replace E := E.upd 71 hc40 rfl
      refine k_take 4 E rfl (by kernel_rfl) nP hT (y_loadAgg (cs := [(Value.bool r2.2), (Value.string (bs r5.1)), (Value.string (bs r5.2.1))]) agg_58 rfl rfl (Holds.cown 0 rfl rfl)) rfl rfl fun a E => ?_
      refine k_all [5] (by kernel_rfl) rfl (one_c ?_)
      · refine wpOp_of_list (o := _) rfl ?_
        refine l_call E go_59 rfl (decimal_number_zero_w N _ (Number.mk r2.2 r5.1 r5.2.1) ⟨rfl, l7, l8⟩ e42 hG ok) rfl rfl ?_
        rintro _ w ⟨rfl, ok⟩
        refine ⟨_, rfl, fun a E => ?_⟩
        refine wpList_nil ?_
        refine t_norm ?_
        refine k_next (cl1 ⟨m0, _, le_m0, ok, ⟨memAt 0 rfl, memAt 1 rfl, trivial⟩⟩ ⟨m0, _, le_m0, ok, ⟨memAt 0 rfl, trivial⟩⟩) fun hT => ?_
        refine k_take 6 E rfl (by kernel_rfl) nP hT (y_not rfl) rfl rfl fun a E => ?_
        refine k_take 7 E rfl (by kernel_rfl) nP hT (y_pickF rfl rfl) rfl rfl fun a E => ?_
        refine k_all [8] (by kernel_rfl) rfl (one_c ?_)
        · refine wpOp_of_list (o := _) rfl ?_
          refine l_storeB E ok 1 rfl rfl rfl inf_58 rfl rfl ⟨rfl, rfl, rfl, trivial⟩ rfl rfl fun w ok => ?_
          refine wpList_nil ?_
          refine t_norm ?_
          refine k_next (cl2 (by kernel_rfl) ⟨m0, _, le_m0, ok, ⟨memAt 0 rfl, trivial⟩⟩) fun hT => ?_
          refine k_take 9 E rfl (by kernel_rfl) nP hT (y_assign rfl) rfl rfl fun a E => ?_
          refine k_done (by kernel_rfl) ?_
          exact ⟨rfl, ⟨ok, E.keep [2, 3], l7, l8⟩⟩
  replace hF := cond_t hc19 hF
  replace E := E.upd 52 hc19 rfl
  refine l_val E ok (y_move rfl) rfl rfl fun a E => ?_
  refine l_val E ok (y_slen Tryd.underlying9 rfl) rfl rfl fun a E => ?_
  refine l_val E ok (y_eql rfl rfl) rfl rfl fun a E => ?_
  refine l_val E ok (y_pickT rfl rfl) rfl rfl fun a E => ?_
  refine l_val E ok (y_move rfl) rfl rfl fun a E => ?_
  refine bsplit ((r5.2.1.length : Int) == 0) (fun hc20 => ?_) (fun hc20 => ?_)
  · replace hF := cond_t hc20 hF
    replace E := E.upd 57 hc20 rfl
    refine l_skip E rfl rfl fun a E => ?_
    refine l_skip E rfl rfl fun a E => ?_
    refine l_skip E rfl rfl fun a E => ?_
    refine l_val E ok (y_pickT rfl rfl) rfl rfl fun a E => ?_
    refine l_val E ok (y_move rfl) rfl rfl fun a E => ?_
    refine l_skip E rfl rfl fun a E => ?_
    refine l_skip E rfl rfl fun a E => ?_
    refine l_skip E rfl rfl fun a E => ?_
    refine l_val E ok (y_pickT rfl rfl) rfl rfl fun a E => ?_
    refine l_val E ok (y_assign rfl) rfl rfl fun a E => ?_
    refine wpList_nil ?_
    refine t_norm ?_
    refine c_if E rfl (fun _ => ?_) (fun h => by cases h)
    refine wp_seq ?_
    refine c_region ?_
    refine l_val E ok (y_loadAgg (cs := [(Value.bool r2.2), (Value.string (bs r5.1)), (Value.string (bs r5.2.1))]) agg_58 rfl rfl (Holds.own 0 rfl rfl)) rfl rfl fun a E => ?_
    refine l_storeB E ok 1 rfl rfl rfl inf_58 rfl rfl ⟨rfl, rfl, rfl, trivial⟩ rfl rfl fun w ok => ?_
    refine l_val E ok (y_assign rfl) rfl rfl fun a E => ?_
    refine wpList_nil ?_
    refine t_norm ?_
    refine wp_ret ?_
    refine b_ret ?_
    refine t_ret ?_
    have hret : decimal_split_R u m0 S ((Number.mk r2.2 r5.1 r5.2.1), false) a w := ⟨m0, [(Value.bool r2.2), (Value.string (bs r5.1)), (Value.string (bs r5.2.1))], le_m0, ok.drop.drop, E.d, ⟨rv_c (cs := [(Value.bool r2.2), (Value.string (bs r5.1)), (Value.string (bs r5.2.1))]) E ok rfl agg_58 rfl (Holds.own 1 rfl rfl), rv_t E rfl, trivial⟩, ⟨rfl, l7, l8⟩⟩
    obtain rfl := Option.some.inj hF
    exact fin _ _ hret
  replace hF := cond_f hc20 hF
  replace E := E.upd 57 hc20 rfl
  refine l_val E ok (y_move rfl) rfl rfl fun a E => ?_
  refine l_val E ok (y_slen Tryd.underlying9 rfl) rfl rfl fun a E => ?_
  refine l_val E ok (y_gtr rfl rfl) rfl rfl fun a E => ?_
  refine l_val E ok (y_pickF rfl rfl) rfl rfl fun a E => ?_
  refine l_val E ok (y_move rfl) rfl rfl fun a E => ?_
  refine bsplit (decide ((r5.2.1.length : Int) > 6)) (fun hc21 => ?_) (fun hc21 => ?_)
  · replace hF := cond_t hc21 hF
    replace E := E.upd 62 hc21 rfl
    refine l_skip E rfl rfl fun a E => ?_
    refine l_skip E rfl rfl fun a E => ?_
    refine l_skip E rfl rfl fun a E => ?_
    refine l_val E ok (y_pickT rfl rfl) rfl rfl fun a E => ?_
    refine l_val E ok (y_assign rfl) rfl rfl fun a E => ?_
    refine wpList_nil ?_
    refine t_norm ?_
    refine c_if E rfl (fun _ => ?_) (fun h => by cases h)
    refine wp_seq ?_
    refine c_region ?_
    refine l_val E ok (y_loadAgg (cs := [(Value.bool r2.2), (Value.string (bs r5.1)), (Value.string (bs r5.2.1))]) agg_58 rfl rfl (Holds.own 0 rfl rfl)) rfl rfl fun a E => ?_
    refine l_storeB E ok 1 rfl rfl rfl inf_58 rfl rfl ⟨rfl, rfl, rfl, trivial⟩ rfl rfl fun w ok => ?_
    refine l_val E ok (y_assign rfl) rfl rfl fun a E => ?_
    refine wpList_nil ?_
    refine t_norm ?_
    refine wp_ret ?_
    refine b_ret ?_
    refine t_ret ?_
    have hret : decimal_split_R u m0 S ((Number.mk r2.2 r5.1 r5.2.1), false) a w := ⟨m0, [(Value.bool r2.2), (Value.string (bs r5.1)), (Value.string (bs r5.2.1))], le_m0, ok.drop.drop, E.d, ⟨rv_c (cs := [(Value.bool r2.2), (Value.string (bs r5.1)), (Value.string (bs r5.2.1))]) E ok rfl agg_58 rfl (Holds.own 1 rfl rfl), rv_t E rfl, trivial⟩, ⟨rfl, l7, l8⟩⟩
    obtain rfl := Option.some.inj hF
    exact fin _ _ hret
  replace hF := cond_f hc21 hF
  replace E := E.upd 62 hc21 rfl
  refine l_val E ok (y_move rfl) rfl rfl fun a E => ?_
  obtain ⟨r22, e23, hF⟩ := bnd hF
  refine l_call E go_58 rfl (decimal_digits_w N r5.2.1 l8 e23 hG ok) rfl rfl ?_
  rintro _ w ⟨rfl, ok⟩
  refine ⟨_, rfl, fun a E => ?_⟩
  refine l_val E ok (y_not rfl) rfl rfl fun a E => ?_
  refine l_val E ok (y_pickF rfl rfl) rfl rfl fun a E => ?_
  refine l_val E ok (y_assign rfl) rfl rfl fun a E => ?_
  refine wpList_nil ?_
  refine t_norm ?_
  refine c_if E rfl (fun hc24 => ?_) (fun hc24 => ?_)
  · replace hF := cond_t hc24 hF
    refine wp_seq ?_
    refine c_region ?_
    refine l_val E ok (y_loadAgg (cs := [(Value.bool r2.2), (Value.string (bs r5.1)), (Value.string (bs r5.2.1))]) agg_58 rfl rfl (Holds.own 0 rfl rfl)) rfl rfl fun a E => ?_
    refine l_storeB E ok 1 rfl rfl rfl inf_58 rfl rfl ⟨rfl, rfl, rfl, trivial⟩ rfl rfl fun w ok => ?_
    refine l_val E ok (y_assign rfl) rfl rfl fun a E => ?_
    refine wpList_nil ?_
    refine t_norm ?_
    refine wp_ret ?_
    refine b_ret ?_
    refine t_ret ?_
    have hret : decimal_split_R u m0 S ((Number.mk r2.2 r5.1 r5.2.1), false) a w := ⟨m0, [(Value.bool r2.2), (Value.string (bs r5.1)), (Value.string (bs r5.2.1))], le_m0, ok.drop.drop, E.d, ⟨rv_c (cs := [(Value.bool r2.2), (Value.string (bs r5.1)), (Value.string (bs r5.2.1))]) E ok rfl agg_58 rfl (Holds.own 1 rfl rfl), rv_t E rfl, trivial⟩, ⟨rfl, l7, l8⟩⟩
    obtain rfl := Option.some.inj hF
    exact fin _ _ hret
  replace hF := cond_f hc24 hF
  refine wp_skip ?_
  refine b_norm ?_
  refine t_norm ?_
  refine wp_seq ?_
  obtain ⟨o25, hJ, hF⟩ := bnd hF
  refine c_mono (Q' := fun e a w => e = .normal ∧ Ok u m0 ([(b9, Obj.cells [(Value.bool r2.2), (Value.string (bs r5.1)), (Value.string (bs r5.2.1))].toArray 58 (0, 0))] :: [(b1, Obj.cells [(Value.bool o25.2.negative), (Value.string (bs o25.2.whole)), (Value.string (bs o25.2.fraction))].toArray 58 (0, 0))] :: S) w ∧ Env 76 a [(2, (Value.pointer (some ⟨b1, 0, none⟩))), (3, (Value.bool o25.1))] ∧ o25.2.whole.length ≤ LIMS ∧ o25.2.fraction.length ≤ LIMS) ?_ ?_
  rotate_left
  · clear hJ
    intro e a w hO
    obtain ⟨rfl, ok, E, l31, l32⟩ := hO
    refine t_norm ?_
    refine wp_ret ?_
    have hret : decimal_split_R u m0 S (o25.2, o25.1) a w := ⟨m0, [(Value.bool o25.2.negative), (Value.string (bs o25.2.whole)), (Value.string (bs o25.2.fraction))], le_m0, ok.drop.drop, E.d, ⟨rv_c (cs := [(Value.bool o25.2.negative), (Value.string (bs o25.2.whole)), (Value.string (bs o25.2.fraction))]) E ok rfl agg_58 rfl (Holds.own 1 rfl rfl), rv_t E rfl, trivial⟩, ⟨rfl, l31, l32⟩⟩
    obtain rfl := Option.some.inj hF
    exact fin _ _ hret
  replace hF := hJ
  clear hJ
  refine bsplit (!r2.2) (fun hc28 => ?_) (fun hc28 => ?_)
  · replace hF := cond_t hc28 hF
    obtain rfl := Option.some.inj hF
    refine k_begin [0] (Cls u m0 ([(b9, Obj.cells [(Value.bool r2.2), (Value.string (bs r5.1)), (Value.string (bs r5.2.1))].toArray 58 (0, 0))] :: [(b1, Obj.cells [(Value.bool false), (Value.string (bs ([]))), (Value.string (bs ([])))].toArray 58 (0, 0))] :: [])) (Cls u m0 ([(b9, Obj.cells [(Value.bool r2.2), (Value.string (bs r5.1)), (Value.string (bs r5.2.1))].toArray 58 (0, 0))] :: [])) (by kernel_rfl) ?_
    intro w hw
    replace ok := okdrew ok hw
    clear hw
    refine k_next (cl1 ⟨m0, _, le_m0, ok, ⟨memAt 0 rfl, memAt 1 rfl, trivial⟩⟩ ⟨m0, _, le_m0, ok, ⟨memAt 0 rfl, trivial⟩⟩) fun hT => ?_
    refine k_takeN 0 E rfl (by kernel_rfl) nP hT (y_loadAgg (cs := [(Value.bool r2.2), (Value.string (bs r5.1)), (Value.string (bs r5.2.1))]) agg_58 rfl rfl (Holds.cown 0 rfl rfl)) rfl rfl fun a E => ?_
    refine k_take 1 E rfl (by kernel_rfl) nP hT (y_move rfl) rfl rfl fun a E => ?_
    refine k_take 2 E rfl (by kernel_rfl) nP hT (y_not rfl) rfl rfl fun a E => ?_
    refine k_take 3 E rfl (by kernel_rfl) nP hT (y_move rfl) rfl rfl fun a E => ?_
    replace E := E.upd 71 hc28 rfl
    refine k_skip 4 false E rfl (by kernel_rfl) nP hT rfl rfl fun a E => ?_
    refine k_skip 5 false E rfl (by kernel_rfl) nP hT rfl rfl fun a E => ?_
    refine k_skip 6 false E rfl (by kernel_rfl) nP hT rfl rfl fun a E => ?_
    refine k_take 7 E rfl (by kernel_rfl) nP hT (y_pickT rfl rfl) rfl rfl fun a E => ?_
    refine k_all [8] (by kernel_rfl) rfl (one_c ?_)
    · refine wpOp_of_list (o := _) rfl ?_
      refine l_storeB E ok 1 rfl rfl rfl inf_58 rfl rfl ⟨rfl, rfl, rfl, trivial⟩ rfl rfl fun w ok => ?_
      refine wpList_nil ?_
      refine t_norm ?_
      refine k_next (cl2 (by kernel_rfl) ⟨m0, _, le_m0, ok, ⟨memAt 0 rfl, trivial⟩⟩) fun hT => ?_
      refine k_take 9 E rfl (by kernel_rfl) nP hT (y_assign rfl) rfl rfl fun a E => ?_
      refine k_done (by kernel_rfl) ?_
      exact ⟨rfl, ⟨ok, E.keep [2, 3], l7, l8⟩⟩
  replace hF := cond_f hc28 hF
  obtain ⟨r29, e30, hF⟩ := bnd hF
  obtain rfl := Option.some.inj hF
  refine k_begin [0] (Cls u m0 ([(b9, Obj.cells [(Value.bool r2.2), (Value.string (bs r5.1)), (Value.string (bs r5.2.1))].toArray 58 (0, 0))] :: [(b1, Obj.cells [(Value.bool false), (Value.string (bs ([]))), (Value.string (bs ([])))].toArray 58 (0, 0))] :: [])) (Cls u m0 ([(b9, Obj.cells [(Value.bool r2.2), (Value.string (bs r5.1)), (Value.string (bs r5.2.1))].toArray 58 (0, 0))] :: [])) (by kernel_rfl) ?_
  intro w hw
  replace ok := okdrew ok hw
  clear hw
  refine k_next (cl1 ⟨m0, _, le_m0, ok, ⟨memAt 0 rfl, memAt 1 rfl, trivial⟩⟩ ⟨m0, _, le_m0, ok, ⟨memAt 0 rfl, trivial⟩⟩) fun hT => ?_
  refine k_takeN 0 E rfl (by kernel_rfl) nP hT (y_loadAgg (cs := [(Value.bool r2.2), (Value.string (bs r5.1)), (Value.string (bs r5.2.1))]) agg_58 rfl rfl (Holds.cown 0 rfl rfl)) rfl rfl fun a E => ?_
  refine k_take 1 E rfl (by kernel_rfl) nP hT (y_move rfl) rfl rfl fun a E => ?_
  refine k_take 2 E rfl (by kernel_rfl) nP hT (y_not rfl) rfl rfl fun a E => ?_
  refine k_take 3 E rfl (by kernel_rfl) nP hT (y_move rfl) rfl rfl fun a E => ?_
  replace E := E.upd 71 hc28 rfl
  refine k_take 4 E rfl (by kernel_rfl) nP hT (y_loadAgg (cs := [(Value.bool r2.2), (Value.string (bs r5.1)), (Value.string (bs r5.2.1))]) agg_58 rfl rfl (Holds.cown 0 rfl rfl)) rfl rfl fun a E => ?_
  refine k_all [5] (by kernel_rfl) rfl (one_c ?_)
  · refine wpOp_of_list (o := _) rfl ?_
    refine l_call E go_59 rfl (decimal_number_zero_w N _ (Number.mk r2.2 r5.1 r5.2.1) ⟨rfl, l7, l8⟩ e30 hG ok) rfl rfl ?_
    rintro _ w ⟨rfl, ok⟩
    refine ⟨_, rfl, fun a E => ?_⟩
    refine wpList_nil ?_
    refine t_norm ?_
    refine k_next (cl1 ⟨m0, _, le_m0, ok, ⟨memAt 0 rfl, memAt 1 rfl, trivial⟩⟩ ⟨m0, _, le_m0, ok, ⟨memAt 0 rfl, trivial⟩⟩) fun hT => ?_
    refine k_take 6 E rfl (by kernel_rfl) nP hT (y_not rfl) rfl rfl fun a E => ?_
    refine k_take 7 E rfl (by kernel_rfl) nP hT (y_pickF rfl rfl) rfl rfl fun a E => ?_
    refine k_all [8] (by kernel_rfl) rfl (one_c ?_)
    · refine wpOp_of_list (o := _) rfl ?_
      refine l_storeB E ok 1 rfl rfl rfl inf_58 rfl rfl ⟨rfl, rfl, rfl, trivial⟩ rfl rfl fun w ok => ?_
      refine wpList_nil ?_
      refine t_norm ?_
      refine k_next (cl2 (by kernel_rfl) ⟨m0, _, le_m0, ok, ⟨memAt 0 rfl, trivial⟩⟩) fun hT => ?_
      refine k_take 9 E rfl (by kernel_rfl) nP hT (y_assign rfl) rfl rfl fun a E => ?_
      refine k_done (by kernel_rfl) ?_
      exact ⟨rfl, ⟨ok, E.keep [2, 3], l7, l8⟩⟩

def decimal_Valid_R (u : World) (m0 : Mem) (S : Segs) (r : Bool) (a : Act) (w : World) : Prop :=
  Ok u m0 S w ∧ a.defers = [] ∧ RVs Tryd.prog a w [.t 2 (.bool r)]
set_option maxHeartbeats 4000000 in
set_option maxRecDepth 100000 in
theorem decimal_Valid_w {u : World} {m0 : Mem} {S : Segs} {w : World} (N : Nat) (s_0 : List UInt8) (ls_0 : s_0.length ≤ LIMS) {r : Bool} (hF : decimal_Valid N s_0 = some r) (hG : Glob u) (ok : Ok u m0 S w) :
    Calls Tryd.prog 21 [Value.string (bs s_0)].toArray w fun e w' => (e = .returned (.bool r) ∧ Ok u m0 S w') := by
  have hb0 := ok.base
  have le_m0 := Mem.le.refl m0
  unfold decimal_Valid at hF
  have fin : ∀ a w, decimal_Valid_R u m0 S r a w → bodyPost Tryd.prog Tryd.f21 (fun e w' => (e = .returned (.bool r) ∧ Ok u m0 S w')) .ret a w := by
    intro a w h
    obtain ⟨ok, hd, hrv⟩ := h
    exact c_ret2 [.t 2 (.bool r)] hd rfl hrv ⟨rfl, ok⟩
  refine enter Tryd.func21 rfl rfl rfl fun a E => ?_
  refine wp_seq ?_
  refine c_region ?_
  refine l_val E ok (y_assign rfl) rfl rfl fun a E => ?_
  refine wpList_nil ?_
  refine t_norm ?_
  refine wp_seq ?_
  refine c_region ?_
  refine l_val E ok (y_move rfl) rfl rfl fun a E => ?_
  obtain ⟨r1, e2, hF⟩ := bnd hF
  refine l_call E go_41 rfl (decimal_split_w N s_0 ls_0 e2 hG ok) rfl rfl ?_
  rintro _ w ⟨m3, vs4, rfl, hle, ok, h5⟩
  have le_m0 := le_m0.trans hle
  obtain ⟨rfl, l6, l7⟩ := h5
  refine ⟨_, rfl, fun a E => ?_⟩
  refine l_val E ok (y_move rfl) rfl rfl fun a E => ?_
  refine l_val E ok (y_extract rfl rfl) rfl rfl fun a E => ?_
  refine l_val E ok (y_extract rfl rfl) rfl rfl fun a E => ?_
  refine l_alloc E ok zero_58 rfl rfl fun b8 a w E ok => ?_
  refine l_storeB E ok 0 rfl rfl rfl inf_58 rfl rfl ⟨rfl, rfl, rfl, trivial⟩ rfl rfl fun w ok => ?_
  refine l_val E ok (y_assign rfl) rfl rfl fun a E => ?_
  refine wpList_nil ?_
  refine t_norm ?_
  refine wp_seq ?_
  refine c_region ?_
  refine l_val E ok (y_move rfl) rfl rfl fun a E => ?_
  refine l_val E ok (y_assign rfl) rfl rfl fun a E => ?_
  refine wpList_nil ?_
  refine t_norm ?_
  refine wp_ret ?_
  have hret : decimal_Valid_R u m0 S r1.2 a w := ⟨(ok.drop).down hb0 le_m0, E.d, ⟨rv_t E rfl, trivial⟩⟩
  obtain rfl := Option.some.inj hF
  exact fin _ _ hret

theorem strings_Repeat_w {u : World} {m0 : Mem} {S : Segs} {w : World} (N : Nat) (p0_0 : List UInt8) (lp0_0 : p0_0.length ≤ LIMS) (p1_1 : Int) (rp1_1 : InR .i64 p1_1) {r : (List UInt8)} (hF : strings_Repeat N p0_0 p1_1 = some r) (hG : Glob u) (ok : Ok u m0 S w) :
    Calls Tryd.prog 42 [Value.string (bs p0_0), Value.int .i64 p1_1].toArray w fun e w' => (e = .returned (.string (bs r)) ∧ Ok u m0 S w') ∧ r.length ≤ LIMS := lib_Repeat Tryd.lays105 Tryd.Builder_Extra_105 p0_0 p1_1 hF ok

def decimal_number_text_R (u : World) (m0 : Mem) (S : Segs) (r : (List UInt8)) (a : Act) (w : World) : Prop :=
  Ok u m0 S w ∧ a.defers = [] ∧ RVs Tryd.prog a w [.t 2 (.string (bs r))] ∧ r.length ≤ LIMS
set_option maxHeartbeats 4000000 in
set_option maxRecDepth 100000 in
theorem decimal_number_text_w {u : World} {m0 : Mem} {S : Segs} {w : World} (N : Nat) (vx_0 : List Value) (x_0 : Number) (hx_0 : pNumber m0 vx_0 x_0) {r : (List UInt8)} (hF : decimal_number_text N x_0 = some r) (hG : Glob u) (ok : Ok u m0 S w) :
    Calls Tryd.prog 62 [.agg vx_0.toArray].toArray w fun e w' => (e = .returned (.string (bs r)) ∧ Ok u m0 S w') ∧ r.length ≤ LIMS := by
  obtain ⟨rfl, l1, l2⟩ := hx_0
  have hb0 := ok.base
  have le_m0 := Mem.le.refl m0
  unfold decimal_number_text at hF
  have fin : ∀ a w, decimal_number_text_R u m0 S r a w → bodyPost Tryd.prog Tryd.f62 (fun e w' => (e = .returned (.string (bs r)) ∧ Ok u m0 S w') ∧ r.length ≤ LIMS) .ret a w := by
    intro a w h
    obtain ⟨ok, hd, hrv, h0⟩ := h
    exact c_ret2 [.t 2 (.string (bs r))] hd rfl hrv ⟨⟨rfl, ok⟩, h0⟩
  refine enter Tryd.func62 rfl rfl rfl fun a E => ?_
  refine wp_seq ?_
  refine c_region ?_
  refine l_box E ok rfl rfl rfl fun b3 a w E ok => ?_
  refine l_val E ok (y_assign rfl) rfl rfl fun a E => ?_
  refine wpList_nil ?_
  refine t_norm ?_
  refine wp_seq ?_
  refine c_region ?_
  refine l_val E ok (y_fieldAddr fo_58_1 rfl) rfl rfl fun a E => ?_
  refine l_val E ok (y_load one_9 rfl (Holds.own 0 rfl rfl)) rfl rfl fun a E => ?_
  refine l_val E ok (y_assign rfl) rfl rfl fun a E => ?_
  refine wpList_nil ?_
  refine t_norm ?_
  refine wp_seq ?_
  refine wp_seq ?_
  refine c_region ?_
  refine l_val E ok (y_fieldAddr fo_58_2 rfl) rfl rfl fun a E => ?_
  refine l_val E ok (y_load one_9 rfl (Holds.own 0 rfl rfl)) rfl rfl fun a E => ?_
  refine l_val E ok (y_sneq rfl rfl) rfl rfl fun a E => ?_
  refine wpList_nil ?_
  refine t_norm ?_
  obtain ⟨o4, hJ, hF⟩ := bnd hF
  refine c_mono (Q' := fun e a w => e = .normal ∧ Ok u m0 ([(b3, Obj.cells [(Value.bool x_0.negative), (Value.string (bs x_0.whole)), (Value.string (bs x_0.fraction))].toArray 58 (0, 0))] :: S) w ∧ Env 24 a [(1, (Value.pointer (some ⟨b3, 0, none⟩))), (3, (Value.string (bs o4)))] ∧ o4.length ≤ LIMS) ?_ ?_
  · replace hF := hJ
    clear hJ
    refine c_if E rfl (fun hc6 => ?_) (fun hc6 => ?_)
    rotate_left
    · replace hF := cond_f hc6 hF
      refine wp_skip ?_
      obtain rfl := Option.some.inj hF
      exact ⟨rfl, ⟨ok, E.keep [1, 3], l1⟩⟩
    replace hF := cond_t hc6 hF
    refine c_region ?_
    refine l_val E ok (y_move rfl) rfl rfl fun a E => ?_
    refine l_val E ok (y_fieldAddr fo_58_2 rfl) rfl rfl fun a E => ?_
    refine l_val E ok (y_load one_9 rfl (Holds.own 0 rfl rfl)) rfl rfl fun a E => ?_
    obtain ⟨s7, e8, hF⟩ := bnd hF
    refine l_val E ok (y_cat rfl rfl e8) rfl rfl fun a E => ?_
    obtain ⟨s9, e10, hF⟩ := bnd hF
    refine l_val E ok (y_cat rfl rfl e10) rfl rfl fun a E => ?_
    refine l_val E ok (y_assign rfl) rfl rfl fun a E => ?_
    refine wpList_nil ?_
    obtain rfl := Option.some.inj hF
    exact ⟨rfl, ⟨ok, E.keep [1, 3], (cat_len e10)⟩⟩
  clear hJ
  intro e a w hO
  obtain ⟨rfl, ok, E, l11⟩ := hO
  refine t_norm ?_
  refine wp_seq ?_
  refine wp_seq ?_
  refine c_region ?_
  refine l_val E ok (y_fieldAddr fo_58_0 rfl) rfl rfl fun a E => ?_
  refine l_val E ok (y_load one_4 rfl (Holds.own 0 rfl rfl)) rfl rfl fun a E => ?_
  refine l_val E ok (y_move rfl) rfl rfl fun a E => ?_
  refine bsplit x_0.negative (fun hc12 => ?_) (fun hc12 => ?_)
  rotate_left
  · replace hF := cond_f hc12 hF
    replace E := E.upd 16 hc12 rfl
    refine l_skip E rfl rfl fun a E => ?_
    refine l_skip E rfl rfl fun a E => ?_
    refine l_skip E rfl rfl fun a E => ?_
    refine l_val E ok (y_pickF rfl rfl) rfl rfl fun a E => ?_
    refine wpList_nil ?_
    refine t_norm ?_
    refine c_if E rfl (fun h => by cases h) (fun _ => ?_)
    refine wp_skip ?_
    refine t_norm ?_
    refine wp_seq ?_
    refine c_region ?_
    refine l_val E ok (y_move rfl) rfl rfl fun a E => ?_
    refine l_val E ok (y_assign rfl) rfl rfl fun a E => ?_
    refine wpList_nil ?_
    refine t_norm ?_
    refine wp_ret ?_
    have hret : decimal_number_text_R u m0 S o4 a w := ⟨ok.drop, E.d, ⟨rv_t E rfl, trivial⟩, l11⟩
    obtain rfl := Option.some.inj hF
    exact fin _ _ hret
  replace hF := cond_t hc12 hF
  replace E := E.upd 16 hc12 rfl
  refine l_val E ok (y_loadAgg (cs := [(Value.bool x_0.negative), (Value.string (bs x_0.whole)), (Value.string (bs x_0.fraction))]) agg_58 rfl rfl (Holds.own 0 rfl rfl)) rfl rfl fun a E => ?_
  obtain ⟨r13, e14, hF⟩ := bnd hF
  refine l_call E go_59 rfl (decimal_number_zero_w N _ x_0 ⟨rfl, l1, l2⟩ e14 hG ok) rfl rfl ?_
  rintro _ w ⟨rfl, ok⟩
  refine ⟨_, rfl, fun a E => ?_⟩
  refine l_val E ok (y_not rfl) rfl rfl fun a E => ?_
  refine l_val E ok (y_pickT rfl rfl) rfl rfl fun a E => ?_
  refine wpList_nil ?_
  refine t_norm ?_
  refine c_if E rfl (fun hc15 => ?_) (fun hc15 => ?_)
  rotate_left
  · replace hF := cond_f hc15 hF
    refine wp_skip ?_
    refine t_norm ?_
    refine wp_seq ?_
    refine c_region ?_
    refine l_val E ok (y_move rfl) rfl rfl fun a E => ?_
    refine l_val E ok (y_assign rfl) rfl rfl fun a E => ?_
    refine wpList_nil ?_
    refine t_norm ?_
    refine wp_ret ?_
    have hret : decimal_number_text_R u m0 S o4 a w := ⟨ok.drop, E.d, ⟨rv_t E rfl, trivial⟩, l11⟩
    obtain rfl := Option.some.inj hF
    exact fin _ _ hret
  replace hF := cond_t hc15 hF
  refine c_region ?_
  refine l_val E ok (y_move rfl) rfl rfl fun a E => ?_
  obtain ⟨s16, e17, hF⟩ := bnd hF
  refine l_val E ok (y_cat rfl rfl e17) rfl rfl fun a E => ?_
  refine l_val E ok (y_assign rfl) rfl rfl fun a E => ?_
  refine wpList_nil ?_
  refine t_norm ?_
  refine wp_seq ?_
  refine c_region ?_
  refine l_val E ok (y_move rfl) rfl rfl fun a E => ?_
  refine l_val E ok (y_assign rfl) rfl rfl fun a E => ?_
  refine wpList_nil ?_
  refine t_norm ?_
  refine wp_ret ?_
  have hret : decimal_number_text_R u m0 S s16 a w := ⟨ok.drop, E.d, ⟨rv_t E rfl, trivial⟩, (cat_len e17)⟩
  obtain rfl := Option.some.inj hF
  exact fin _ _ hret

def decimal_number_permitted_R (u : World) (m0 : Mem) (S : Segs) (r : (List UInt8) × Int) (a : Act) (w : World) : Prop :=
  Ok u m0 S w ∧ a.defers = [] ∧ RVs Tryd.prog a w [.t 2 (.string (bs r.1)), .t 3 (.int .i64 r.2)] ∧ r.1.length ≤ LIMS ∧ InR .i64 r.2
set_option maxHeartbeats 4000000 in
set_option maxRecDepth 100000 in
theorem decimal_number_permitted_w {u : World} {m0 : Mem} {S : Segs} {w : World} (N : Nat) (vx_0 : List Value) (x_0 : Number) (hx_0 : pNumber m0 vx_0 x_0) {r : (List UInt8) × Int} (hF : decimal_number_permitted N x_0 = some r) (hG : Glob u) (ok : Ok u m0 S w) :
    Calls Tryd.prog 43 [.agg vx_0.toArray].toArray w fun e w' => (e = .returned (.tuple [(.string (bs r.1)), (.int .i64 r.2)].toArray) ∧ Ok u m0 S w') ∧ r.1.length ≤ LIMS ∧ InR .i64 r.2 := by
  obtain ⟨rfl, l1, l2⟩ := hx_0
  have hb0 := ok.base
  have le_m0 := Mem.le.refl m0
  unfold decimal_number_permitted at hF
  have fin : ∀ a w, decimal_number_permitted_R u m0 S r a w → bodyPost Tryd.prog Tryd.f43 (fun e w' => (e = .returned (.tuple [(.string (bs r.1)), (.int .i64 r.2)].toArray) ∧ Ok u m0 S w') ∧ r.1.length ≤ LIMS ∧ InR .i64 r.2) .ret a w := by
    intro a w h
    obtain ⟨ok, hd, hrv, h0, h1⟩ := h
    exact c_ret2 [.t 2 (.string (bs r.1)), .t 3 (.int .i64 r.2)] hd rfl hrv ⟨⟨rfl, ok⟩, h0, h1⟩
  refine enter Tryd.func43 rfl rfl rfl fun a E => ?_
  refine wp_seq ?_
  refine c_region ?_
  refine l_box E ok rfl rfl rfl fun b3 a w E ok => ?_
  refine l_val E ok (y_assign rfl) rfl rfl fun a E => ?_
  refine l_val E ok (y_assign rfl) rfl rfl fun a E => ?_
  refine wpList_nil ?_
  refine t_norm ?_
  refine wp_seq ?_
  refine wp_seq ?_
  refine c_region ?_
  refine l_val E ok (y_fieldAddr fo_58_1 rfl) rfl rfl fun a E => ?_
  refine l_val E ok (y_load one_9 rfl (Holds.own 0 rfl rfl)) rfl rfl fun a E => ?_
  refine l_val E ok (y_slen Tryd.underlying9 rfl) rfl rfl fun a E => ?_
  refine l_val E ok (y_gtr rfl rfl) rfl rfl fun a E => ?_
  refine l_val E ok (y_move rfl) rfl rfl fun a E => ?_
  refine bsplit (decide ((x_0.whole.length : Int) > 15)) (fun hc4 => ?_) (fun hc4 => ?_)
  · replace hF := cond_t hc4 hF
    replace E := E.upd 8 hc4 rfl
    refine l_skip E rfl rfl fun a E => ?_
    refine l_skip E rfl rfl fun a E => ?_
    refine l_skip E rfl rfl fun a E => ?_
    refine l_skip E rfl rfl fun a E => ?_
    refine l_val E ok (y_pickT rfl rfl) rfl rfl fun a E => ?_
    refine wpList_nil ?_
    refine t_norm ?_
    refine c_if E rfl (fun _ => ?_) (fun h => by cases h)
    refine wp_seq ?_
    refine c_region ?_
    refine l_val E ok (y_assign rfl) rfl rfl fun a E => ?_
    refine l_val E ok (y_assign rfl) rfl rfl fun a E => ?_
    refine wpList_nil ?_
    refine t_norm ?_
    refine wp_ret ?_
    refine t_ret ?_
    have hret : decimal_number_permitted_R u m0 S ([], 2) a w := ⟨ok.drop, E.d, ⟨rv_t E rfl, rv_t E rfl, trivial⟩, (show ([] : List UInt8).length ≤ LIMS by decide), (show InR .i64 (2) by decide)⟩
    obtain rfl := Option.some.inj hF
    exact fin _ _ hret
  replace hF := cond_f hc4 hF
  replace E := E.upd 8 hc4 rfl
  refine l_val E ok (y_fieldAddr fo_58_2 rfl) rfl rfl fun a E => ?_
  refine l_val E ok (y_load one_9 rfl (Holds.own 0 rfl rfl)) rfl rfl fun a E => ?_
  refine l_val E ok (y_slen Tryd.underlying9 rfl) rfl rfl fun a E => ?_
  refine l_val E ok (y_gtr rfl rfl) rfl rfl fun a E => ?_
  refine l_val E ok (y_pickF rfl rfl) rfl rfl fun a E => ?_
  refine wpList_nil ?_
  refine t_norm ?_
  refine c_if E rfl (fun hc5 => ?_) (fun hc5 => ?_)
  · replace hF := cond_t hc5 hF
    refine wp_seq ?_
    refine c_region ?_
    refine l_val E ok (y_assign rfl) rfl rfl fun a E => ?_
    refine l_val E ok (y_assign rfl) rfl rfl fun a E => ?_
    refine wpList_nil ?_
    refine t_norm ?_
    refine wp_ret ?_
    refine t_ret ?_
    have hret : decimal_number_permitted_R u m0 S ([], 2) a w := ⟨ok.drop, E.d, ⟨rv_t E rfl, rv_t E rfl, trivial⟩, (show ([] : List UInt8).length ≤ LIMS by decide), (show InR .i64 (2) by decide)⟩
    obtain rfl := Option.some.inj hF
    exact fin _ _ hret
  replace hF := cond_f hc5 hF
  refine wp_skip ?_
  refine t_norm ?_
  refine wp_seq ?_
  refine c_region ?_
  refine l_val E ok (y_loadAgg (cs := [(Value.bool x_0.negative), (Value.string (bs x_0.whole)), (Value.string (bs x_0.fraction))]) agg_58 rfl rfl (Holds.own 0 rfl rfl)) rfl rfl fun a E => ?_
  obtain ⟨r6, e7, hF⟩ := bnd hF
  refine l_call E go_62 rfl (decimal_number_text_w N _ x_0 ⟨rfl, l1, l2⟩ e7 hG ok) rfl rfl ?_
  rintro _ w ⟨⟨rfl, ok⟩, l8⟩
  refine ⟨_, rfl, fun a E => ?_⟩
  refine l_val E ok (y_assign rfl) rfl rfl fun a E => ?_
  refine l_val E ok (y_assign rfl) rfl rfl fun a E => ?_
  refine wpList_nil ?_
  refine t_norm ?_
  refine wp_ret ?_
  have hret : decimal_number_permitted_R u m0 S (r6, 0) a w := ⟨ok.drop, E.d, ⟨rv_t E rfl, rv_t E rfl, trivial⟩, l8, (show InR .i64 (0) by decide)⟩
  obtain rfl := Option.some.inj hF
  exact fin _ _ hret

set_option maxHeartbeats 4000000 in
set_option maxRecDepth 100000 in
/-- The walk of increased. -/
theorem decimal_increased_w {u : World} {m0 : Mem} {S : Segs} {w : World} (N : Nat) (s : List UInt8) (ls : s.length ≤ LIMS) {r : List UInt8} (hF : decimal_increased N s = some r) (hG : Glob u) (ok : Ok u m0 S w) :
    Calls Tryd.prog 44 [.string (bs s)].toArray w fun e w' => (e = .returned (.string (bs r)) ∧ Ok u m0 S w') ∧ r.length ≤ LIMS := by
  unfold decimal_increased incs at hF
  split at hF
  case isFalse => cases hF
  rename_i hl
  obtain rfl := Option.some.inj hF
  have hll : s.length < 9223372036854775807 := hl
  have wk : ∀ z : Int, -1 ≤ z → z ≤ (s.length : Int) → IntKind.wrap .i64 z = z := fun z h1 h2 => wrap_of (inR_i64.2 ⟨by omega, by omega⟩)
  refine enter Tryd.func44 rfl rfl rfl fun a E => ?_
  refine wp_seq ?_
  refine c_region ?_
  refine l_val E ok (y_assign rfl) rfl rfl fun a E => ?_
  refine wpList_nil ?_
  refine t_norm ?_
  refine wp_seq ?_
  refine c_region ?_
  refine l_val E ok (y_move rfl) rfl rfl fun a E => ?_
  refine l_bytes E ok Tryd.underlying9 Tryd.underlying66 Tryd.underlying5 rfl rfl rfl fun b cap tail f a w E hf ok => ?_
  refine l_val E ok (y_assign rfl) rfl rfl fun a E => ?_
  refine wpList_nil ?_
  refine t_norm ?_
  refine wp_seq ?_
  refine wp_seq ?_
  refine c_region ?_
  refine l_val E ok (y_move rfl) rfl rfl fun a E => ?_
  refine l_val E ok (y_len Tryd.underlying66 rfl) rfl rfl fun a E => ?_
  refine l_val E ok (y_subw rfl rfl) rfl rfl fun a E => ?_
  rw [wk _ (by omega) (by omega)] at E
  refine l_val E ok (y_assign rfl) rfl rfl fun a E => ?_
  refine wpList_nil ?_
  refine t_norm ?_
  refine wp_block ?_
  refine c_loop (fun k : Nat => match k with | 0 => some (Sum.inr none) | k + 1 => if s.getD k 0 = 57 then some (Sum.inl k) else some (Sum.inr (some k)))
    (fun k a w => k ≤ s.length ∧ Ok u m0 ([(b, Obj.cells (bcells (incB s k) ++ tail).toArray 5 f)] :: S) w ∧
      Env 33 a [(3, .slice (some ⟨b, 0, none⟩) s.length cap), (4, .int .i64 ((k : Int) - 1))])
    (fun o e a w => match o with
      | none => e = .exit 0 ∧ Ok u m0 ([(b, Obj.cells (bcells (incB s 0) ++ tail).toArray 5 f)] :: S) w ∧ Env 33 a [(3, .slice (some ⟨b, 0, none⟩) s.length cap)]
      | some k => e = .ret ∧ k < s.length ∧ Ok u m0 S w ∧ Env 33 a [(2, .string (bs (s.take k ++ (s.getD k 0 + 1) :: List.replicate (s.length - (k + 1)) 48)))])
    (b := incO s s.length) ?_ ?_ (s.length + 1) s.length a w (incIter s _) ⟨Nat.le_refl _, by rw [incB_all]; exact ok, E.keep [3, 4]⟩
  · rintro k a w r ⟨hk, ok, E⟩ hB
    refine wp_seq ?_
    refine wp_seq ?_
    refine c_region ?_
    refine l_val E ok (y_move rfl) rfl rfl fun a E => ?_
    refine l_val E ok (y_geq rfl rfl) rfl rfl fun a E => ?_
    refine wpList_nil ?_
    refine t_norm ?_
    refine c_if E rfl (fun hc => ?_) (fun hc => ?_)
    · cases k with
      | zero => exact absurd (of_decide_eq_true hc) (by omega)
      | succ k =>
      simp only at hB
      rw [show ((k + 1 : Nat) : Int) - 1 = (k : Int) from by omega] at E
      have hkl : k < s.length := hk
      have hlen : k < (bcells (incB s (k + 1)) ++ tail).length := by rw [List.length_append, bcells_length, incB_length (by omega)]; omega
      refine wp_skip ?_
      refine t_norm ?_
      refine wp_seq ?_
      refine wp_block ?_
      refine wp_seq ?_
      refine wp_seq ?_
      refine c_region ?_
      refine l_val E ok (y_move rfl) rfl rfl fun a E => ?_
      refine l_val E ok (y_move rfl) rfl rfl fun a E => ?_
      refine l_val E ok (y_indexX (k := 1) sl_66 rfl rfl hkl) rfl rfl fun a E => ?_
      rw [show 0 + k * 1 = k from by omega] at E
      refine l_val E ok (y_load (v := .int .u8 ((s.getD k 0).toNat : Int)) one_5 rfl (Holds.own 0 rfl (incB_at tail hkl))) rfl rfl fun a E => ?_
      refine l_val E ok (y_neq rfl rfl) rfl rfl fun a E => ?_
      refine wpList_nil ?_
      refine t_norm ?_
      refine c_if E rfl (fun hd => ?_) (fun hd => ?_)
      · have hne : ¬ s.getD k 0 = 57 := fun e => by rw [e] at hd; simp at hd
        rw [if_neg hne] at hB
        obtain rfl := Option.some.inj hB
        refine wp_seq ?_
        refine c_region ?_
        refine l_val E ok (y_move rfl) rfl rfl fun a E => ?_
        refine l_val E ok (y_move rfl) rfl rfl fun a E => ?_
        refine l_val E ok (y_indexX (k := 1) sl_66 rfl rfl hkl) rfl rfl fun a E => ?_
        rw [show 0 + k * 1 = k from by omega] at E
        refine l_val E ok (y_load (v := .int .u8 ((s.getD k 0).toNat : Int)) one_5 rfl (Holds.own 0 rfl (incB_at tail hkl))) rfl rfl fun a E => ?_
        refine l_val E ok (y_addw rfl rfl) rfl rfl fun a E => ?_
        rw [u8_inc] at E
        refine l_val E ok (y_indexX (k := 1) sl_66 rfl rfl hkl) rfl rfl fun a E => ?_
        rw [show 0 + k * 1 = k from by omega] at E
        refine l_storeF E ok rfl rfl inf_5 rfl rfl hlen (by rw [List.length_append, bcells_length, incB_length (by omega)]; rw [List.length_append, bcells_length] at hf; exact hf) rfl fun w ok => ?_
        rw [incB_set tail hkl] at ok
        refine wpList_nil ?_
        refine t_norm ?_
        refine wp_seq ?_
        refine c_region ?_
        refine l_val E ok (y_move rfl) rfl rfl fun a E => ?_
        have hB2 := BR.ofCells (u := u) (m := m0) (S := S) (b := b) (cap := cap) (T := 5) (f := f) (s.take k ++ (s.getD k 0 + 1) :: List.replicate (s.length - (k + 1)) 48) tail
        rw [show (s.take k ++ (s.getD k 0 + 1) :: List.replicate (s.length - (k + 1)) 48).length = s.length from by rw [List.length_append, List.length_cons, List.length_take, List.length_replicate]; omega] at hB2
        refine l_val E ok (y_bstr Tryd.underlying66 Tryd.underlying5 Tryd.underlying9 rfl hB2) rfl rfl fun a E => ?_
        rw [bytesOf_toNat] at E
        refine l_val E ok (y_assign rfl) rfl rfl fun a E => ?_
        refine wpList_nil ?_
        refine t_norm ?_
        refine wp_ret ?_
        refine t_ret ?_
        refine b_ret ?_
        refine t_ret ?_
        refine step_o (by nofun) ⟨rfl, hkl, ok.drop, E.keep [2]⟩
      · have he : s.getD k 0 = 57 := by
          have : ((s.getD k 0).toNat : Int) = 57 := by simpa using hd
          apply UInt8.toNat_inj.1
          show (s.getD k 0).toNat = 57
          omega
        rw [if_pos he] at hB
        obtain rfl := Option.some.inj hB
        refine wp_skip ?_
        refine t_norm ?_
        refine c_region ?_
        refine l_val E ok (y_move rfl) rfl rfl fun a E => ?_
        refine l_val E ok (y_move rfl) rfl rfl fun a E => ?_
        refine l_val E ok (y_indexX (k := 1) sl_66 rfl rfl hkl) rfl rfl fun a E => ?_
        rw [show 0 + k * 1 = k from by omega] at E
        refine l_storeF E ok rfl rfl inf_5 rfl rfl hlen (by rw [List.length_append, bcells_length, incB_length (by omega)]; rw [List.length_append, bcells_length] at hf; exact hf) rfl fun w ok => ?_
        rw [incB_zero tail hkl] at ok
        refine wpList_nil ?_
        refine b_norm ?_
        refine t_norm ?_
        refine c_region ?_
        refine l_val E ok (y_move rfl) rfl rfl fun a E => ?_
        refine l_val E ok (y_subw rfl rfl) rfl rfl fun a E => ?_
        rw [wk _ (by omega) (by omega)] at E
        refine l_val E ok (y_assign rfl) rfl rfl fun a E => ?_
        refine wpList_nil ?_
        refine step_n ⟨by omega, ok, E.keep [3, 4]⟩
    · cases k with
      | succ k => exact absurd (of_decide_eq_false hc) (by omega)
      | zero =>
      obtain rfl := Option.some.inj hB
      refine wp_exit ?_
      refine t_exit ?_
      refine step_o (by nofun) ⟨rfl, ok, E.keep [3]⟩
  · intro e a w he hO
    cases ho : incO s s.length with
    | none =>
      rw [ho] at hO
      obtain ⟨rfl, ok, E⟩ := hO
      refine b_hit ?_
      refine t_norm ?_
      refine wp_seq ?_
      refine c_region ?_
      refine l_val E ok (y_move rfl) rfl rfl fun a E => ?_
      have hB2 := BR.ofCells (u := u) (m := m0) (S := S) (b := b) (cap := cap) (T := 5) (f := f) (incB s 0) tail
      rw [incB_length (Nat.zero_le _)] at hB2
      refine l_val E ok (y_bstr Tryd.underlying66 Tryd.underlying5 Tryd.underlying9 rfl hB2) rfl rfl fun a E => ?_
      rw [bytesOf_toNat] at E
      refine l_val E ok (y_cat rfl rfl (r := 49 :: incB s 0) (by rw [incB_nil]; unfold cat; rw [if_pos (by simp only [List.length_cons, List.length_nil, List.length_replicate]; omega)]; rfl)) rfl rfl fun a E => ?_
      refine l_val E ok (y_assign rfl) rfl rfl fun a E => ?_
      refine wpList_nil ?_
      refine t_norm ?_
      refine wp_ret ?_
      refine c_ret2 [.t 2 (.string (bs (49 :: incB s 0)))] E.d rfl ⟨rv_t E rfl, trivial⟩ ⟨⟨?_, ok.drop⟩, ?_⟩
      · rw [incK_none ho, incB_nil]; rfl
      · rw [incK_none ho]; simp only [List.length_cons, List.length_replicate]; omega
    | some k =>
      rw [ho] at hO
      obtain ⟨rfl, hk, ok, E⟩ := hO
      refine b_ret ?_
      refine t_ret ?_
      refine c_ret2 [.t 2 (.string (bs (s.take k ++ (s.getD k 0 + 1) :: List.replicate (s.length - (k + 1)) 48)))] E.d rfl ⟨rv_t E rfl, trivial⟩ ⟨⟨?_, ok⟩, ?_⟩
      · rw [incK_some ho]; rfl
      · rw [incK_some ho, List.length_append, List.length_cons, List.length_take, List.length_replicate]; omega

def decimal_Round_R (u : World) (m0 : Mem) (S : Segs) (r : (List UInt8) × Int) (a : Act) (w : World) : Prop :=
  Ok u m0 S w ∧ a.defers = [] ∧ RVs Tryd.prog a w [.t 4 (.string (bs r.1)), .t 5 (.int .i64 r.2)] ∧ r.1.length ≤ LIMS ∧ InR .i64 r.2
set_option maxHeartbeats 4000000 in
set_option maxRecDepth 100000 in
theorem decimal_Round_w {u : World} {m0 : Mem} {S : Segs} {w : World} (N : Nat) (s_0 : List UInt8) (ls_0 : s_0.length ≤ LIMS) (n_1 : Int) (rn_1 : InR .i64 n_1) {r : (List UInt8) × Int} (hF : decimal_Round N s_0 n_1 = some r) (hG : Glob u) (ok : Ok u m0 S w) :
    Calls Tryd.prog 22 [Value.string (bs s_0), Value.int .i64 n_1].toArray w fun e w' => (e = .returned (.tuple [(.string (bs r.1)), (.int .i64 r.2)].toArray) ∧ Ok u m0 S w') ∧ r.1.length ≤ LIMS ∧ InR .i64 r.2 := by
  have hb0 := ok.base
  have le_m0 := Mem.le.refl m0
  unfold decimal_Round at hF
  have fin : ∀ a w, decimal_Round_R u m0 S r a w → bodyPost Tryd.prog Tryd.f22 (fun e w' => (e = .returned (.tuple [(.string (bs r.1)), (.int .i64 r.2)].toArray) ∧ Ok u m0 S w') ∧ r.1.length ≤ LIMS ∧ InR .i64 r.2) .ret a w := by
    intro a w h
    obtain ⟨ok, hd, hrv, h0, h1⟩ := h
    exact c_ret2 [.t 4 (.string (bs r.1)), .t 5 (.int .i64 r.2)] hd rfl hrv ⟨⟨rfl, ok⟩, h0, h1⟩
  refine enter Tryd.func22 rfl rfl rfl fun a E => ?_
  refine wp_seq ?_
  refine c_region ?_
  refine l_val E ok (y_assign rfl) rfl rfl fun a E => ?_
  refine l_val E ok (y_assign rfl) rfl rfl fun a E => ?_
  refine wpList_nil ?_
  refine t_norm ?_
  refine wp_seq ?_
  refine c_region ?_
  refine l_val E ok (y_move rfl) rfl rfl fun a E => ?_
  obtain ⟨r1, e2, hF⟩ := bnd hF
  refine l_call E go_41 rfl (decimal_split_w N s_0 ls_0 e2 hG ok) rfl rfl ?_
  rintro _ w ⟨m3, vs4, rfl, hle, ok, h5⟩
  have le_m0 := le_m0.trans hle
  obtain ⟨rfl, l6, l7⟩ := h5
  refine ⟨_, rfl, fun a E => ?_⟩
  refine l_val E ok (y_move rfl) rfl rfl fun a E => ?_
  refine l_val E ok (y_extract rfl rfl) rfl rfl fun a E => ?_
  refine l_val E ok (y_extract rfl rfl) rfl rfl fun a E => ?_
  refine l_alloc E ok zero_58 rfl rfl fun b8 a w E ok => ?_
  refine l_storeB E ok 0 rfl rfl rfl inf_58 rfl rfl ⟨rfl, rfl, rfl, trivial⟩ rfl rfl fun w ok => ?_
  refine l_val E ok (y_assign rfl) rfl rfl fun a E => ?_
  refine wpList_nil ?_
  refine t_norm ?_
  refine wp_seq ?_
  refine wp_block ?_
  refine wp_seq ?_
  refine c_region ?_
  refine l_val E ok (y_move rfl) rfl rfl fun a E => ?_
  refine l_val E ok (y_not rfl) rfl rfl fun a E => ?_
  refine l_val E ok (y_assign rfl) rfl rfl fun a E => ?_
  refine wpList_nil ?_
  refine t_norm ?_
  refine c_if E rfl (fun hc9 => ?_) (fun hc9 => ?_)
  · replace hF := cond_t hc9 hF
    refine wp_seq ?_
    refine c_region ?_
    refine l_val E ok (y_assign rfl) rfl rfl fun a E => ?_
    refine l_val E ok (y_assign rfl) rfl rfl fun a E => ?_
    refine wpList_nil ?_
    refine t_norm ?_
    refine wp_ret ?_
    refine b_ret ?_
    refine t_ret ?_
    have hret : decimal_Round_R u m0 S ([], 1) a w := ⟨(ok.drop).down hb0 le_m0, E.d, ⟨rv_t E rfl, rv_t E rfl, trivial⟩, (show ([] : List UInt8).length ≤ LIMS by decide), (show InR .i64 (1) by decide)⟩
    obtain rfl := Option.some.inj hF
    exact fin _ _ hret
  replace hF := cond_f hc9 hF
  refine wp_seq ?_
  refine c_region ?_
  refine l_val E ok (y_move rfl) rfl rfl fun a E => ?_
  refine l_val E ok (y_lss rfl rfl) rfl rfl fun a E => ?_
  refine l_val E ok (y_move rfl) rfl rfl fun a E => ?_
  refine bsplit (decide (n_1 < 0)) (fun hc10 => ?_) (fun hc10 => ?_)
  · replace hF := cond_t hc10 hF
    replace E := E.upd 21 hc10 rfl
    refine l_skip E rfl rfl fun a E => ?_
    refine l_skip E rfl rfl fun a E => ?_
    refine l_val E ok (y_pickT rfl rfl) rfl rfl fun a E => ?_
    refine l_val E ok (y_assign rfl) rfl rfl fun a E => ?_
    refine wpList_nil ?_
    refine t_norm ?_
    refine c_if E rfl (fun _ => ?_) (fun h => by cases h)
    refine wp_seq ?_
    refine c_region ?_
    refine l_val E ok (y_assign rfl) rfl rfl fun a E => ?_
    refine l_val E ok (y_assign rfl) rfl rfl fun a E => ?_
    refine wpList_nil ?_
    refine t_norm ?_
    refine wp_ret ?_
    refine b_ret ?_
    refine t_ret ?_
    have hret : decimal_Round_R u m0 S ([], 2) a w := ⟨(ok.drop).down hb0 le_m0, E.d, ⟨rv_t E rfl, rv_t E rfl, trivial⟩, (show ([] : List UInt8).length ≤ LIMS by decide), (show InR .i64 (2) by decide)⟩
    obtain rfl := Option.some.inj hF
    exact fin _ _ hret
  replace hF := cond_f hc10 hF
  replace E := E.upd 21 hc10 rfl
  refine l_val E ok (y_move rfl) rfl rfl fun a E => ?_
  refine l_val E ok (y_gtr rfl rfl) rfl rfl fun a E => ?_
  refine l_val E ok (y_pickF rfl rfl) rfl rfl fun a E => ?_
  refine l_val E ok (y_assign rfl) rfl rfl fun a E => ?_
  refine wpList_nil ?_
  refine t_norm ?_
  refine c_if E rfl (fun hc11 => ?_) (fun hc11 => ?_)
  · replace hF := cond_t hc11 hF
    refine wp_seq ?_
    refine c_region ?_
    refine l_val E ok (y_assign rfl) rfl rfl fun a E => ?_
    refine l_val E ok (y_assign rfl) rfl rfl fun a E => ?_
    refine wpList_nil ?_
    refine t_norm ?_
    refine wp_ret ?_
    refine b_ret ?_
    refine t_ret ?_
    have hret : decimal_Round_R u m0 S ([], 2) a w := ⟨(ok.drop).down hb0 le_m0, E.d, ⟨rv_t E rfl, rv_t E rfl, trivial⟩, (show ([] : List UInt8).length ≤ LIMS by decide), (show InR .i64 (2) by decide)⟩
    obtain rfl := Option.some.inj hF
    exact fin _ _ hret
  replace hF := cond_f hc11 hF
  refine wp_skip ?_
  refine b_norm ?_
  refine t_norm ?_
  refine wp_seq ?_
  refine wp_seq ?_
  refine c_region ?_
  refine l_val E ok (y_move rfl) rfl rfl fun a E => ?_
  refine l_val E ok (y_fieldAddr fo_58_2 rfl) rfl rfl fun a E => ?_
  refine l_val E ok (y_load one_9 rfl (Holds.own 0 rfl rfl)) rfl rfl fun a E => ?_
  refine l_val E ok (y_slen Tryd.underlying9 rfl) rfl rfl fun a E => ?_
  refine l_val E ok (y_geq rfl rfl) rfl rfl fun a E => ?_
  refine wpList_nil ?_
  refine t_norm ?_
  refine c_if E rfl (fun hc12 => ?_) (fun hc12 => ?_)
  · replace hF := cond_t hc12 hF
    refine wp_seq ?_
    obtain ⟨o13, hJ, hF⟩ := bnd hF
    refine c_mono (Q' := fun e a w => e = .normal ∧ Ok u m3 ([(b8, Obj.cells [(Value.bool o13.negative), (Value.string (bs o13.whole)), (Value.string (bs o13.fraction))].toArray 58 (0, 0))] :: S) w ∧ Env 77 a [(6, (Value.pointer (some ⟨b8, 0, none⟩)))] ∧ o13.whole.length ≤ LIMS ∧ o13.fraction.length ≤ LIMS) ?_ ?_
    rotate_left
    · clear hJ
      intro e a w hO
      obtain ⟨rfl, ok, E, l22, l23⟩ := hO
      refine t_norm ?_
      refine wp_seq ?_
      refine c_region ?_
      refine l_val E ok (y_loadAgg (cs := [(Value.bool o13.negative), (Value.string (bs o13.whole)), (Value.string (bs o13.fraction))]) agg_58 rfl rfl (Holds.own 0 rfl rfl)) rfl rfl fun a E => ?_
      obtain ⟨r24, e25, hF⟩ := bnd hF
      refine l_call E go_43 rfl (decimal_number_permitted_w N _ o13 ⟨rfl, l22, l23⟩ e25 hG ok) rfl rfl ?_
      rintro _ w ⟨⟨rfl, ok⟩, l26, r27⟩
      refine ⟨_, rfl, fun a E => ?_⟩
      refine l_val E ok (y_extract rfl rfl) rfl rfl fun a E => ?_
      refine l_val E ok (y_extract rfl rfl) rfl rfl fun a E => ?_
      refine l_val E ok (y_assign rfl) rfl rfl fun a E => ?_
      refine l_val E ok (y_assign rfl) rfl rfl fun a E => ?_
      refine wpList_nil ?_
      refine t_norm ?_
      refine wp_ret ?_
      refine t_ret ?_
      have hret : decimal_Round_R u m0 S (r24.1, r24.2) a w := ⟨(ok.drop).down hb0 le_m0, E.d, ⟨rv_t E rfl, rv_t E rfl, trivial⟩, l26, r27⟩
      obtain rfl := Option.some.inj hF
      exact fin _ _ hret
    replace hF := hJ
    clear hJ
    obtain ⟨r16, e17, hF⟩ := bnd hF
    obtain ⟨s19, e20, hF⟩ := bnd hF
    obtain rfl := Option.some.inj hF
    refine k_begin [1, 4] (Cls u m3 ([(b8, Obj.cells [(Value.bool r1.1.negative), (Value.string (bs r1.1.whole)), (Value.string (bs r1.1.fraction))].toArray 58 (0, 0))] :: [])) (Cls u m3 ([])) (by kernel_rfl) ?_
    intro w hw
    replace ok := okdrew ok hw
    clear hw
    have le_m3 := Mem.le.refl m3
    refine k_next (cl1 ⟨m3, _, le_m3, ok, ⟨memAt 0 rfl, trivial⟩⟩ ⟨m3, _, le_m3, ok, trivial⟩) fun hT => ?_
    refine k_take 0 E rfl (by kernel_rfl) nP hT (y_fieldAddr fo_58_2 rfl) rfl rfl fun a E => ?_
    refine k_takeN 1 E rfl (by kernel_rfl) nP hT (y_load one_9 rfl (Holds.cown 0 rfl rfl)) rfl rfl fun a E => ?_
    refine k_take 2 E rfl (by kernel_rfl) nP hT (y_move rfl) rfl rfl fun a E => ?_
    refine k_take 3 E rfl (by kernel_rfl) nP hT (y_fieldAddr fo_58_2 rfl) rfl rfl fun a E => ?_
    refine k_takeN 4 E rfl (by kernel_rfl) nP hT (y_load one_9 rfl (Holds.cown 0 rfl rfl)) rfl rfl fun a E => ?_
    refine k_take 5 E rfl (by kernel_rfl) nP hT (y_slen Tryd.underlying9 rfl) rfl rfl fun a E => ?_
    refine k_take 6 E rfl (by kernel_rfl) nP hT (y_subw rfl rfl) rfl rfl fun a E => ?_
    refine k_all [7] (by kernel_rfl) rfl (one_c ?_)
    · refine wpOp_of_list (o := _) rfl ?_
      refine l_call E go_42 rfl (strings_Repeat_w N ([48]) (show ([48] : List UInt8).length ≤ LIMS by decide) (IntKind.wrap .i64 (n_1 - (r1.1.fraction.length : Int))) (InR.wrap _ _) e17 hG ok) rfl rfl ?_
      rintro _ w ⟨⟨rfl, ok⟩, l21⟩
      refine ⟨_, rfl, fun a E => ?_⟩
      refine wpList_nil ?_
      refine t_norm ?_
      refine k_next (cl1 ⟨m3, _, le_m3, ok, ⟨memAt 0 rfl, trivial⟩⟩ ⟨m3, _, le_m3, ok, trivial⟩) fun hT => ?_
      refine k_take 8 E rfl (by kernel_rfl) nP hT (y_cat rfl rfl e20) rfl rfl fun a E => ?_
      refine k_take 9 E rfl (by kernel_rfl) nP hT (y_fieldAddr fo_58_2 rfl) rfl rfl fun a E => ?_
      refine k_all [10] (by kernel_rfl) rfl (one_c ?_)
      · refine wpOp_of_list (o := _) rfl ?_
        refine l_storeB E ok 0 rfl rfl rfl inf_9 rfl rfl ⟨rfl, trivial⟩ rfl rfl fun w ok => ?_
        refine wpList_nil ?_
        refine t_norm ?_
        refine k_next (cl2 (by kernel_rfl) ⟨m3, _, le_m3, ok, trivial⟩) fun hT => ?_
        refine k_done (by kernel_rfl) ?_
        exact ⟨rfl, ⟨ok, E.keep [6], l6, (cat_len e20)⟩⟩
  replace hF := cond_f hc12 hF
  refine wp_skip ?_
  refine t_norm ?_
  refine wp_seq ?_
  refine c_draw (by kernel_rfl) (by kernel_rfl) ok ?_
  refine q_val E (y_fieldAddr fo_58_1 rfl) rfl rfl fun a E => ?_
  refine q_val E (y_load one_9 rfl (Holds.own 0 rfl rfl)) rfl rfl fun a E => ?_
  refine q_val E (y_fieldAddr fo_58_2 rfl) rfl rfl fun a E => ?_
  refine q_val E (y_load one_9 rfl (Holds.own 0 rfl rfl)) rfl rfl fun a E => ?_
  refine q_val E (y_move rfl) rfl rfl fun a E => ?_
  obtain ⟨s28, e29, hF⟩ := bnd hF
  refine q_val E (y_sslice Tryd.underlying9 e29 rfl rfl ⟨_, rfl⟩) rfl rfl fun a E => ?_
  obtain ⟨s30, e31, hF⟩ := bnd hF
  refine q_val E (y_cat rfl rfl e31) rfl rfl fun a E => ?_
  refine q_val E (y_fieldAddr fo_58_2 rfl) rfl rfl fun a E => ?_
  refine q_val E (y_load one_9 rfl (Holds.own 0 rfl rfl)) rfl rfl fun a E => ?_
  refine q_val E (y_move rfl) rfl rfl fun a E => ?_
  obtain ⟨c32, e33, hF⟩ := bnd hF
  refine q_val E (y_index Tryd.underlying9 rfl rfl e33) rfl rfl fun a E => ?_
  refine q_val E (y_geq rfl rfl) rfl rfl fun a E => ?_
  refine q_val E (y_assign rfl) rfl rfl fun a E => ?_
  refine q_val E (y_assign rfl) rfl rfl fun a E => ?_
  refine wpQuiet_nil ?_
  intro w ok
  refine t_norm ?_
  refine wp_seq ?_
  refine wp_seq ?_
  refine c_region ?_
  refine l_val E ok (y_move rfl) rfl rfl fun a E => ?_
  refine wpList_nil ?_
  refine t_norm ?_
  obtain ⟨o34, hJ, hF⟩ := bnd hF
  refine c_mono (Q' := fun e a w => e = .normal ∧ Ok u m3 ([(b8, Obj.cells [(Value.bool r1.1.negative), (Value.string (bs r1.1.whole)), (Value.string (bs r1.1.fraction))].toArray 58 (0, 0))] :: S) w ∧ Env 77 a [(1, (Value.int .i64 n_1)), (6, (Value.pointer (some ⟨b8, 0, none⟩))), (8, (Value.string (bs o34)))] ∧ o34.length ≤ LIMS) ?_ ?_
  · replace hF := hJ
    clear hJ
    refine c_if E rfl (fun hc36 => ?_) (fun hc36 => ?_)
    rotate_left
    · replace hF := cond_f hc36 hF
      refine wp_skip ?_
      obtain rfl := Option.some.inj hF
      exact ⟨rfl, ⟨ok, E.keep [1, 6, 8], (cat_len e31)⟩⟩
    replace hF := cond_t hc36 hF
    refine c_region ?_
    refine l_val E ok (y_move rfl) rfl rfl fun a E => ?_
    obtain ⟨r37, e38, hF⟩ := bnd hF
    refine l_call E go_44 rfl (decimal_increased_w N s30 (cat_len e31) e38 hG ok) rfl rfl ?_
    rintro _ w ⟨⟨rfl, ok⟩, l39⟩
    refine ⟨_, rfl, fun a E => ?_⟩
    refine l_val E ok (y_assign rfl) rfl rfl fun a E => ?_
    refine wpList_nil ?_
    obtain rfl := Option.some.inj hF
    exact ⟨rfl, ⟨ok, E.keep [1, 6, 8], l39⟩⟩
  clear hJ
  intro e a w hO
  obtain ⟨rfl, ok, E, l40⟩ := hO
  refine t_norm ?_
  refine wp_seq ?_
  obtain ⟨o41, hJ, hF⟩ := bnd hF
  refine c_mono (Q' := fun e a w => e = .normal ∧ Ok u m3 ([(b8, Obj.cells [(Value.bool o41.negative), (Value.string (bs o41.whole)), (Value.string (bs o41.fraction))].toArray 58 (0, 0))] :: S) w ∧ Env 77 a [(6, (Value.pointer (some ⟨b8, 0, none⟩)))] ∧ o41.whole.length ≤ LIMS ∧ o41.fraction.length ≤ LIMS) ?_ ?_
  rotate_left
  · clear hJ
    intro e a w hO
    obtain ⟨rfl, ok, E, l48, l49⟩ := hO
    refine t_norm ?_
    refine wp_seq ?_
    refine c_region ?_
    refine l_val E ok (y_loadAgg (cs := [(Value.bool o41.negative), (Value.string (bs o41.whole)), (Value.string (bs o41.fraction))]) agg_58 rfl rfl (Holds.own 0 rfl rfl)) rfl rfl fun a E => ?_
    obtain ⟨r50, e51, hF⟩ := bnd hF
    refine l_call E go_43 rfl (decimal_number_permitted_w N _ o41 ⟨rfl, l48, l49⟩ e51 hG ok) rfl rfl ?_
    rintro _ w ⟨⟨rfl, ok⟩, l52, r53⟩
    refine ⟨_, rfl, fun a E => ?_⟩
    refine l_val E ok (y_extract rfl rfl) rfl rfl fun a E => ?_
    refine l_val E ok (y_extract rfl rfl) rfl rfl fun a E => ?_
    refine l_val E ok (y_assign rfl) rfl rfl fun a E => ?_
    refine l_val E ok (y_assign rfl) rfl rfl fun a E => ?_
    refine wpList_nil ?_
    refine t_norm ?_
    refine wp_ret ?_
    have hret : decimal_Round_R u m0 S (r50.1, r50.2) a w := ⟨(ok.drop).down hb0 le_m0, E.d, ⟨rv_t E rfl, rv_t E rfl, trivial⟩, l52, r53⟩
    obtain rfl := Option.some.inj hF
    exact fin _ _ hret
  replace hF := hJ
  clear hJ
  obtain ⟨s44, e45, hF⟩ := bnd hF
  obtain ⟨s46, e47, hF⟩ := bnd hF
  obtain rfl := Option.some.inj hF
  refine k_begin [] (Cls u m3 ([])) (Cls u m3 ([])) (by kernel_rfl) ?_
  intro w hw
  replace ok := okdrew ok hw
  clear hw
  have le_m3 := Mem.le.refl m3
  refine k_next (cl1 ⟨m3, _, le_m3, ok, trivial⟩ ⟨m3, _, le_m3, ok, trivial⟩) fun hT => ?_
  refine k_take 0 E rfl (by kernel_rfl) nP hT (y_move rfl) rfl rfl fun a E => ?_
  refine k_take 1 E rfl (by kernel_rfl) nP hT (y_move rfl) rfl rfl fun a E => ?_
  refine k_take 2 E rfl (by kernel_rfl) nP hT (y_slen Tryd.underlying9 rfl) rfl rfl fun a E => ?_
  refine k_take 3 E rfl (by kernel_rfl) nP hT (y_move rfl) rfl rfl fun a E => ?_
  refine k_take 4 E rfl (by kernel_rfl) nP hT (y_subw rfl rfl) rfl rfl fun a E => ?_
  refine k_take 5 E rfl (by kernel_rfl) nP hT (y_sslice Tryd.underlying9 e45 rfl rfl ⟨_, rfl⟩) rfl rfl fun a E => ?_
  refine k_take 6 E rfl (by kernel_rfl) nP hT (y_move rfl) rfl rfl fun a E => ?_
  refine k_take 7 E rfl (by kernel_rfl) nP hT (y_move rfl) rfl rfl fun a E => ?_
  refine k_take 8 E rfl (by kernel_rfl) nP hT (y_slen Tryd.underlying9 rfl) rfl rfl fun a E => ?_
  refine k_take 9 E rfl (by kernel_rfl) nP hT (y_move rfl) rfl rfl fun a E => ?_
  refine k_take 10 E rfl (by kernel_rfl) nP hT (y_subw rfl rfl) rfl rfl fun a E => ?_
  refine k_take 11 E rfl (by kernel_rfl) nP hT (y_sslice Tryd.underlying9 e47 rfl ⟨_, rfl⟩ rfl) rfl rfl fun a E => ?_
  refine k_take 12 E rfl (by kernel_rfl) nP hT (y_fieldAddr fo_58_1 rfl) rfl rfl fun a E => ?_
  refine k_all [13] (by kernel_rfl) rfl (one_c ?_)
  · refine wpOp_of_list (o := _) rfl ?_
    refine l_storeB E ok 0 rfl rfl rfl inf_9 rfl rfl ⟨rfl, trivial⟩ rfl rfl fun w ok => ?_
    refine wpList_nil ?_
    refine t_norm ?_
    refine k_next (cl1 ⟨m3, _, le_m3, ok, trivial⟩ ⟨m3, _, le_m3, ok, trivial⟩) fun hT => ?_
    refine k_take 14 E rfl (by kernel_rfl) nP hT (y_fieldAddr fo_58_2 rfl) rfl rfl fun a E => ?_
    refine k_all [15] (by kernel_rfl) rfl (one_c ?_)
    · refine wpOp_of_list (o := _) rfl ?_
      refine l_storeB E ok 0 rfl rfl rfl inf_9 rfl rfl ⟨rfl, trivial⟩ rfl rfl fun w ok => ?_
      refine wpList_nil ?_
      refine t_norm ?_
      refine k_next (cl1 ⟨m3, _, le_m3, ok, trivial⟩ ⟨m3, _, le_m3, ok, trivial⟩) fun hT => ?_
      refine k_done (by kernel_rfl) ?_
      exact ⟨rfl, ⟨ok, E.keep [6], (Nat.le_trans (slc_len e45) l40), (Nat.le_trans (slc_len e47) l40)⟩⟩

theorem strings_TrimLeft_w {u : World} {m0 : Mem} {S : Segs} {w : World} (N : Nat) (p0_0 : List UInt8) (lp0_0 : p0_0.length ≤ LIMS) (p1_1 : List UInt8) (lp1_1 : p1_1.length ≤ LIMS) {r : (List UInt8)} (hF : strings_TrimLeft N p0_0 p1_1 = some r) (hG : Glob u) (ok : Ok u m0 S w) :
    Calls Tryd.prog 63 [Value.string (bs p0_0), Value.string (bs p1_1)].toArray w fun e w' => (e = .returned (.string (bs r)) ∧ Ok u m0 S w') ∧ r.length ≤ LIMS := lib_TrimLeft Tryd.lays161 (by kernel_rfl) p0_0 p1_1 hF lp0_0 ok

def decimal_trimmed_R (u : World) (m0 : Mem) (S : Segs) (r : (List UInt8)) (a : Act) (w : World) : Prop :=
  Ok u m0 S w ∧ a.defers = [] ∧ RVs Tryd.prog a w [.t 2 (.string (bs r))] ∧ r.length ≤ LIMS
set_option maxHeartbeats 4000000 in
set_option maxRecDepth 100000 in
theorem decimal_trimmed_w {u : World} {m0 : Mem} {S : Segs} {w : World} (N : Nat) (whole_0 : List UInt8) (lwhole_0 : whole_0.length ≤ LIMS) {r : (List UInt8)} (hF : decimal_trimmed N whole_0 = some r) (hG : Glob u) (ok : Ok u m0 S w) :
    Calls Tryd.prog 45 [Value.string (bs whole_0)].toArray w fun e w' => (e = .returned (.string (bs r)) ∧ Ok u m0 S w') ∧ r.length ≤ LIMS := by
  have hb0 := ok.base
  have le_m0 := Mem.le.refl m0
  unfold decimal_trimmed at hF
  have fin : ∀ a w, decimal_trimmed_R u m0 S r a w → bodyPost Tryd.prog Tryd.f45 (fun e w' => (e = .returned (.string (bs r)) ∧ Ok u m0 S w') ∧ r.length ≤ LIMS) .ret a w := by
    intro a w h
    obtain ⟨ok, hd, hrv, h0⟩ := h
    exact c_ret2 [.t 2 (.string (bs r))] hd rfl hrv ⟨⟨rfl, ok⟩, h0⟩
  refine enter Tryd.func45 rfl rfl rfl fun a E => ?_
  refine wp_seq ?_
  refine c_region ?_
  refine l_val E ok (y_assign rfl) rfl rfl fun a E => ?_
  refine wpList_nil ?_
  refine t_norm ?_
  refine wp_seq ?_
  refine wp_seq ?_
  refine c_region ?_
  refine l_val E ok (y_move rfl) rfl rfl fun a E => ?_
  obtain ⟨r1, e2, hF⟩ := bnd hF
  refine l_call E go_63 rfl (strings_TrimLeft_w N whole_0 lwhole_0 ([48]) (show ([48] : List UInt8).length ≤ LIMS by decide) e2 hG ok) rfl rfl ?_
  rintro _ w ⟨⟨rfl, ok⟩, l3⟩
  refine ⟨_, rfl, fun a E => ?_⟩
  refine l_val E ok (y_assign rfl) rfl rfl fun a E => ?_
  refine wpList_nil ?_
  refine t_norm ?_
  refine wp_seq ?_
  refine c_region ?_
  refine l_val E ok (y_move rfl) rfl rfl fun a E => ?_
  refine l_val E ok (y_sneq rfl rfl) rfl rfl fun a E => ?_
  refine wpList_nil ?_
  refine t_norm ?_
  refine c_if E rfl (fun hc4 => ?_) (fun hc4 => ?_)
  · replace hF := cond_t hc4 hF
    refine wp_seq ?_
    refine c_region ?_
    refine l_val E ok (y_move rfl) rfl rfl fun a E => ?_
    refine l_val E ok (y_assign rfl) rfl rfl fun a E => ?_
    refine wpList_nil ?_
    refine t_norm ?_
    refine wp_ret ?_
    refine t_ret ?_
    have hret : decimal_trimmed_R u m0 S r1 a w := ⟨ok, E.d, ⟨rv_t E rfl, trivial⟩, l3⟩
    obtain rfl := Option.some.inj hF
    exact fin _ _ hret
  replace hF := cond_f hc4 hF
  refine wp_skip ?_
  refine t_norm ?_
  refine wp_seq ?_
  refine c_region ?_
  refine l_val E ok (y_assign rfl) rfl rfl fun a E => ?_
  refine wpList_nil ?_
  refine t_norm ?_
  refine wp_ret ?_
  have hret : decimal_trimmed_R u m0 S ([48]) a w := ⟨ok, E.d, ⟨rv_t E rfl, trivial⟩, (show ([48] : List UInt8).length ≤ LIMS by decide)⟩
  obtain rfl := Option.some.inj hF
  exact fin _ _ hret

def decimal_Shift_R (u : World) (m0 : Mem) (S : Segs) (r : (List UInt8) × Int) (a : Act) (w : World) : Prop :=
  Ok u m0 S w ∧ a.defers = [] ∧ RVs Tryd.prog a w [.t 4 (.string (bs r.1)), .t 5 (.int .i64 r.2)] ∧ r.1.length ≤ LIMS ∧ InR .i64 r.2
set_option maxHeartbeats 4000000 in
set_option maxRecDepth 100000 in
theorem decimal_Shift_w {u : World} {m0 : Mem} {S : Segs} {w : World} (N : Nat) (s_0 : List UInt8) (ls_0 : s_0.length ≤ LIMS) (n_1 : Int) (rn_1 : InR .i64 n_1) {r : (List UInt8) × Int} (hF : decimal_Shift N s_0 n_1 = some r) (hG : Glob u) (ok : Ok u m0 S w) :
    Calls Tryd.prog 23 [Value.string (bs s_0), Value.int .i64 n_1].toArray w fun e w' => (e = .returned (.tuple [(.string (bs r.1)), (.int .i64 r.2)].toArray) ∧ Ok u m0 S w') ∧ r.1.length ≤ LIMS ∧ InR .i64 r.2 := by
  have hb0 := ok.base
  have le_m0 := Mem.le.refl m0
  unfold decimal_Shift at hF
  have fin : ∀ a w, decimal_Shift_R u m0 S r a w → bodyPost Tryd.prog Tryd.f23 (fun e w' => (e = .returned (.tuple [(.string (bs r.1)), (.int .i64 r.2)].toArray) ∧ Ok u m0 S w') ∧ r.1.length ≤ LIMS ∧ InR .i64 r.2) .ret a w := by
    intro a w h
    obtain ⟨ok, hd, hrv, h0, h1⟩ := h
    exact c_ret2 [.t 4 (.string (bs r.1)), .t 5 (.int .i64 r.2)] hd rfl hrv ⟨⟨rfl, ok⟩, h0, h1⟩
  refine enter Tryd.func23 rfl rfl rfl fun a E => ?_
  refine wp_seq ?_
  refine c_region ?_
  refine l_val E ok (y_assign rfl) rfl rfl fun a E => ?_
  refine l_val E ok (y_assign rfl) rfl rfl fun a E => ?_
  refine wpList_nil ?_
  refine t_norm ?_
  refine wp_seq ?_
  refine c_region ?_
  refine l_val E ok (y_move rfl) rfl rfl fun a E => ?_
  obtain ⟨r1, e2, hF⟩ := bnd hF
  refine l_call E go_41 rfl (decimal_split_w N s_0 ls_0 e2 hG ok) rfl rfl ?_
  rintro _ w ⟨m3, vs4, rfl, hle, ok, h5⟩
  have le_m0 := le_m0.trans hle
  obtain ⟨rfl, l6, l7⟩ := h5
  refine ⟨_, rfl, fun a E => ?_⟩
  refine l_val E ok (y_move rfl) rfl rfl fun a E => ?_
  refine l_val E ok (y_extract rfl rfl) rfl rfl fun a E => ?_
  refine l_val E ok (y_extract rfl rfl) rfl rfl fun a E => ?_
  refine l_alloc E ok zero_58 rfl rfl fun b8 a w E ok => ?_
  refine l_storeB E ok 0 rfl rfl rfl inf_58 rfl rfl ⟨rfl, rfl, rfl, trivial⟩ rfl rfl fun w ok => ?_
  refine l_val E ok (y_assign rfl) rfl rfl fun a E => ?_
  refine wpList_nil ?_
  refine t_norm ?_
  refine wp_seq ?_
  refine wp_seq ?_
  refine c_region ?_
  refine l_val E ok (y_move rfl) rfl rfl fun a E => ?_
  refine l_val E ok (y_not rfl) rfl rfl fun a E => ?_
  refine wpList_nil ?_
  refine t_norm ?_
  refine c_if E rfl (fun hc9 => ?_) (fun hc9 => ?_)
  · replace hF := cond_t hc9 hF
    refine wp_seq ?_
    refine c_region ?_
    refine l_val E ok (y_assign rfl) rfl rfl fun a E => ?_
    refine l_val E ok (y_assign rfl) rfl rfl fun a E => ?_
    refine wpList_nil ?_
    refine t_norm ?_
    refine wp_ret ?_
    refine t_ret ?_
    have hret : decimal_Shift_R u m0 S ([], 1) a w := ⟨(ok.drop).down hb0 le_m0, E.d, ⟨rv_t E rfl, rv_t E rfl, trivial⟩, (show ([] : List UInt8).length ≤ LIMS by decide), (show InR .i64 (1) by decide)⟩
    obtain rfl := Option.some.inj hF
    exact fin _ _ hret
  replace hF := cond_f hc9 hF
  refine wp_skip ?_
  refine t_norm ?_
  refine wp_seq ?_
  refine c_region ?_
  refine l_val E ok (y_move rfl) rfl rfl fun a E => ?_
  refine l_val E ok (y_min rfl rfl) rfl rfl fun a E => ?_
  refine l_val E ok (y_max rfl rfl) rfl rfl fun a E => ?_
  refine l_val E ok (y_assign rfl) rfl rfl fun a E => ?_
  refine wpList_nil ?_
  refine t_norm ?_
  refine wp_seq ?_
  refine wp_seq ?_
  refine c_region ?_
  refine l_val E ok (y_move rfl) rfl rfl fun a E => ?_
  refine l_val E ok (y_geq rfl rfl) rfl rfl fun a E => ?_
  refine wpList_nil ?_
  refine t_norm ?_
  obtain ⟨o10, hJ, hF⟩ := bnd hF
  refine c_mono (Q' := fun e a w => e = .normal ∧ Ok u m3 ([(b8, Obj.cells [(Value.bool o10.negative), (Value.string (bs o10.whole)), (Value.string (bs o10.fraction))].toArray 58 (0, 0))] :: S) w ∧ Env 72 a [(6, (Value.pointer (some ⟨b8, 0, none⟩)))] ∧ o10.whole.length ≤ LIMS ∧ o10.fraction.length ≤ LIMS) ?_ ?_
  rotate_left
  · clear hJ
    intro e a w hO
    obtain ⟨rfl, ok, E, l55, l56⟩ := hO
    refine t_norm ?_
    refine wp_seq ?_
    refine c_region ?_
    refine l_val E ok (y_loadAgg (cs := [(Value.bool o10.negative), (Value.string (bs o10.whole)), (Value.string (bs o10.fraction))]) agg_58 rfl rfl (Holds.own 0 rfl rfl)) rfl rfl fun a E => ?_
    obtain ⟨r57, e58, hF⟩ := bnd hF
    refine l_call E go_43 rfl (decimal_number_permitted_w N _ o10 ⟨rfl, l55, l56⟩ e58 hG ok) rfl rfl ?_
    rintro _ w ⟨⟨rfl, ok⟩, l59, r60⟩
    refine ⟨_, rfl, fun a E => ?_⟩
    refine l_val E ok (y_extract rfl rfl) rfl rfl fun a E => ?_
    refine l_val E ok (y_extract rfl rfl) rfl rfl fun a E => ?_
    refine l_val E ok (y_assign rfl) rfl rfl fun a E => ?_
    refine l_val E ok (y_assign rfl) rfl rfl fun a E => ?_
    refine wpList_nil ?_
    refine t_norm ?_
    refine wp_ret ?_
    have hret : decimal_Shift_R u m0 S (r57.1, r57.2) a w := ⟨(ok.drop).down hb0 le_m0, E.d, ⟨rv_t E rfl, rv_t E rfl, trivial⟩, l59, r60⟩
    obtain rfl := Option.some.inj hF
    exact fin _ _ hret
  replace hF := hJ
  clear hJ
  refine c_if E rfl (fun hc13 => ?_) (fun hc13 => ?_)
  rotate_left
  · replace hF := cond_f hc13 hF
    refine wp_seq ?_
    refine c_draw (by kernel_rfl) (by kernel_rfl) ok ?_
    refine q_val E (y_move rfl) rfl rfl fun a E => ?_
    refine q_val E (y_neg rfl) rfl rfl fun a E => ?_
    obtain ⟨r35, e36, hF⟩ := bnd hF
    obtain ⟨_, _, ⟨_, _⟩, l37⟩ := Go.X.Calls.get (strings_Repeat_w N ([48]) (show ([48] : List UInt8).length ≤ LIMS by decide) (IntKind.wrap .i64 (-(max (min n_1 40) (-40)))) (InR.wrap _ _) e36 hG ok)
    refine q_call E go_42 rfl (fun w ok => (strings_Repeat_w N ([48]) (show ([48] : List UInt8).length ≤ LIMS by decide) (IntKind.wrap .i64 (-(max (min n_1 40) (-40)))) (InR.wrap _ _) e36 hG ok).mono (fun _ _ h => h.1)) rfl rfl fun a E => ?_
    refine q_val E (y_fieldAddr fo_58_1 rfl) rfl rfl fun a E => ?_
    refine q_val E (y_load one_9 rfl (Holds.own 0 rfl rfl)) rfl rfl fun a E => ?_
    obtain ⟨s38, e39, hF⟩ := bnd hF
    refine q_val E (y_cat rfl rfl e39) rfl rfl fun a E => ?_
    refine q_val E (y_assign rfl) rfl rfl fun a E => ?_
    refine wpQuiet_nil ?_
    intro w ok
    refine t_norm ?_
    obtain ⟨o40, hJ, hF⟩ := bnd hF
    refine c_mono (Q' := fun e a w => e = .normal ∧ Ok u m3 ([(b8, Obj.cells [(Value.bool o40.negative), (Value.string (bs o40.whole)), (Value.string (bs o40.fraction))].toArray 58 (0, 0))] :: S) w ∧ Env 72 a [(6, (Value.pointer (some ⟨b8, 0, none⟩)))] ∧ o40.whole.length ≤ LIMS ∧ o40.fraction.length ≤ LIMS) ?_ ?_
    rotate_left
    · clear hJ
      intro e a w hO
      obtain ⟨rfl, ok, E, l53, l54⟩ := hO
      obtain rfl := Option.some.inj hF
      exact ⟨rfl, ⟨ok, E.keep [6], l53, l54⟩⟩
    replace hF := hJ
    clear hJ
    obtain ⟨s43, e44, hF⟩ := bnd hF
    obtain ⟨r45, e46, hF⟩ := bnd hF
    obtain ⟨s48, e49, hF⟩ := bnd hF
    obtain ⟨s50, e51, hF⟩ := bnd hF
    obtain rfl := Option.some.inj hF
    refine k_begin [14] (Cls u m3 ([(b8, Obj.cells [(Value.bool r1.1.negative), (Value.string (bs r1.1.whole)), (Value.string (bs r1.1.fraction))].toArray 58 (0, 0))] :: [])) (Cls u m3 ([])) (by kernel_rfl) ?_
    intro w hw
    replace ok := okdrew ok hw
    clear hw
    have le_m3 := Mem.le.refl m3
    refine k_next (cl1 ⟨m3, _, le_m3, ok, ⟨memAt 0 rfl, trivial⟩⟩ ⟨m3, _, le_m3, ok, trivial⟩) fun hT => ?_
    refine k_take 0 E rfl (by kernel_rfl) nP hT (y_move rfl) rfl rfl fun a E => ?_
    refine k_take 1 E rfl (by kernel_rfl) nP hT (y_move rfl) rfl rfl fun a E => ?_
    refine k_take 2 E rfl (by kernel_rfl) nP hT (y_slen Tryd.underlying9 rfl) rfl rfl fun a E => ?_
    refine k_take 3 E rfl (by kernel_rfl) nP hT (y_move rfl) rfl rfl fun a E => ?_
    refine k_take 4 E rfl (by kernel_rfl) nP hT (y_addw rfl rfl) rfl rfl fun a E => ?_
    refine k_take 5 E rfl (by kernel_rfl) nP hT (y_sslice Tryd.underlying9 e44 rfl rfl ⟨_, rfl⟩) rfl rfl fun a E => ?_
    refine k_take 7 E rfl (by kernel_rfl) nP hT (y_move rfl) rfl rfl fun a E => ?_
    refine k_take 8 E rfl (by kernel_rfl) nP hT (y_move rfl) rfl rfl fun a E => ?_
    refine k_take 9 E rfl (by kernel_rfl) nP hT (y_slen Tryd.underlying9 rfl) rfl rfl fun a E => ?_
    refine k_take 10 E rfl (by kernel_rfl) nP hT (y_move rfl) rfl rfl fun a E => ?_
    refine k_take 11 E rfl (by kernel_rfl) nP hT (y_addw rfl rfl) rfl rfl fun a E => ?_
    refine k_take 12 E rfl (by kernel_rfl) nP hT (y_sslice Tryd.underlying9 e49 rfl ⟨_, rfl⟩ rfl) rfl rfl fun a E => ?_
    refine k_take 13 E rfl (by kernel_rfl) nP hT (y_fieldAddr fo_58_2 rfl) rfl rfl fun a E => ?_
    refine k_takeN 14 E rfl (by kernel_rfl) nP hT (y_load one_9 rfl (Holds.cown 0 rfl rfl)) rfl rfl fun a E => ?_
    refine k_take 15 E rfl (by kernel_rfl) nP hT (y_cat rfl rfl e51) rfl rfl fun a E => ?_
    refine k_all [6] (by kernel_rfl) rfl (one_c ?_)
    · refine wpOp_of_list (o := _) rfl ?_
      refine l_call E go_45 rfl (decimal_trimmed_w N s43 (Nat.le_trans (slc_len e44) (cat_len e39)) e46 hG ok) rfl rfl ?_
      rintro _ w ⟨⟨rfl, ok⟩, l52⟩
      refine ⟨_, rfl, fun a E => ?_⟩
      refine wpList_nil ?_
      refine t_norm ?_
      refine k_next (cl1 ⟨m3, _, le_m3, ok, ⟨memAt 0 rfl, trivial⟩⟩ ⟨m3, _, le_m3, ok, trivial⟩) fun hT => ?_
      refine k_take 16 E rfl (by kernel_rfl) nP hT (y_fieldAddr fo_58_1 rfl) rfl rfl fun a E => ?_
      refine k_all [17] (by kernel_rfl) rfl (one_c ?_)
      · refine wpOp_of_list (o := _) rfl ?_
        refine l_storeB E ok 0 rfl rfl rfl inf_9 rfl rfl ⟨rfl, trivial⟩ rfl rfl fun w ok => ?_
        refine wpList_nil ?_
        refine t_norm ?_
        refine k_next (cl2 (by kernel_rfl) ⟨m3, _, le_m3, ok, trivial⟩) fun hT => ?_
        refine k_take 18 E rfl (by kernel_rfl) nP hT (y_fieldAddr fo_58_2 rfl) rfl rfl fun a E => ?_
        refine k_all [19] (by kernel_rfl) rfl (one_c ?_)
        · refine wpOp_of_list (o := _) rfl ?_
          refine l_storeB E ok 0 rfl rfl rfl inf_9 rfl rfl ⟨rfl, trivial⟩ rfl rfl fun w ok => ?_
          refine wpList_nil ?_
          refine t_norm ?_
          refine k_next (cl2 (by kernel_rfl) ⟨m3, _, le_m3, ok, trivial⟩) fun hT => ?_
          refine k_done (by kernel_rfl) ?_
          exact ⟨rfl, ⟨ok, E.keep [6], l52, (cat_len e51)⟩⟩
  replace hF := cond_t hc13 hF
  refine wp_seq ?_
  refine c_draw (by kernel_rfl) (by kernel_rfl) ok ?_
  refine q_val E (y_fieldAddr fo_58_2 rfl) rfl rfl fun a E => ?_
  refine q_val E (y_load one_9 rfl (Holds.own 0 rfl rfl)) rfl rfl fun a E => ?_
  refine q_val E (y_move rfl) rfl rfl fun a E => ?_
  obtain ⟨r14, e15, hF⟩ := bnd hF
  obtain ⟨_, _, ⟨_, _⟩, l16⟩ := Go.X.Calls.get (strings_Repeat_w N ([48]) (show ([48] : List UInt8).length ≤ LIMS by decide) (max (min n_1 40) (-40)) (InR.max (InR.min rn_1 (show InR .i64 (40) by decide)) (show InR .i64 (-40) by decide)) e15 hG ok)
  refine q_call E go_42 rfl (fun w ok => (strings_Repeat_w N ([48]) (show ([48] : List UInt8).length ≤ LIMS by decide) (max (min n_1 40) (-40)) (InR.max (InR.min rn_1 (show InR .i64 (40) by decide)) (show InR .i64 (-40) by decide)) e15 hG ok).mono (fun _ _ h => h.1)) rfl rfl fun a E => ?_
  obtain ⟨s17, e18, hF⟩ := bnd hF
  refine q_val E (y_cat rfl rfl e18) rfl rfl fun a E => ?_
  refine q_val E (y_assign rfl) rfl rfl fun a E => ?_
  refine wpQuiet_nil ?_
  intro w ok
  refine t_norm ?_
  obtain ⟨o19, hJ, hF⟩ := bnd hF
  refine c_mono (Q' := fun e a w => e = .normal ∧ Ok u m3 ([(b8, Obj.cells [(Value.bool o19.negative), (Value.string (bs o19.whole)), (Value.string (bs o19.fraction))].toArray 58 (0, 0))] :: S) w ∧ Env 72 a [(6, (Value.pointer (some ⟨b8, 0, none⟩)))] ∧ o19.whole.length ≤ LIMS ∧ o19.fraction.length ≤ LIMS) ?_ ?_
  rotate_left
  · clear hJ
    intro e a w hO
    obtain ⟨rfl, ok, E, l33, l34⟩ := hO
    obtain rfl := Option.some.inj hF
    exact ⟨rfl, ⟨ok, E.keep [6], l33, l34⟩⟩
  replace hF := hJ
  clear hJ
  obtain ⟨s22, e23, hF⟩ := bnd hF
  obtain ⟨s24, e25, hF⟩ := bnd hF
  obtain ⟨r26, e27, hF⟩ := bnd hF
  obtain ⟨s29, e30, hF⟩ := bnd hF
  obtain rfl := Option.some.inj hF
  refine k_begin [1, 8, 11] (Cls u m3 ([(b8, Obj.cells [(Value.bool r1.1.negative), (Value.string (bs r1.1.whole)), (Value.string (bs r1.1.fraction))].toArray 58 (0, 0))] :: [])) (Cls u m3 ([])) (by kernel_rfl) ?_
  intro w hw
  replace ok := okdrew ok hw
  clear hw
  have le_m3 := Mem.le.refl m3
  refine k_next (cl1 ⟨m3, _, le_m3, ok, ⟨memAt 0 rfl, trivial⟩⟩ ⟨m3, _, le_m3, ok, trivial⟩) fun hT => ?_
  refine k_take 0 E rfl (by kernel_rfl) nP hT (y_fieldAddr fo_58_1 rfl) rfl rfl fun a E => ?_
  refine k_takeN 1 E rfl (by kernel_rfl) nP hT (y_load one_9 rfl (Holds.cown 0 rfl rfl)) rfl rfl fun a E => ?_
  refine k_take 2 E rfl (by kernel_rfl) nP hT (y_move rfl) rfl rfl fun a E => ?_
  refine k_take 3 E rfl (by kernel_rfl) nP hT (y_move rfl) rfl rfl fun a E => ?_
  refine k_take 4 E rfl (by kernel_rfl) nP hT (y_sslice Tryd.underlying9 e23 rfl rfl ⟨_, rfl⟩) rfl rfl fun a E => ?_
  refine k_take 5 E rfl (by kernel_rfl) nP hT (y_cat rfl rfl e25) rfl rfl fun a E => ?_
  refine k_take 7 E rfl (by kernel_rfl) nP hT (y_fieldAddr fo_58_2 rfl) rfl rfl fun a E => ?_
  refine k_takeN 8 E rfl (by kernel_rfl) nP hT (y_load one_9 rfl (Holds.cown 0 rfl rfl)) rfl rfl fun a E => ?_
  refine k_take 9 E rfl (by kernel_rfl) nP hT (y_move rfl) rfl rfl fun a E => ?_
  refine k_take 10 E rfl (by kernel_rfl) nP hT (y_fieldAddr fo_58_2 rfl) rfl rfl fun a E => ?_
  refine k_takeN 11 E rfl (by kernel_rfl) nP hT (y_load one_9 rfl (Holds.cown 0 rfl rfl)) rfl rfl fun a E => ?_
  refine k_take 12 E rfl (by kernel_rfl) nP hT (y_slen Tryd.underlying9 rfl) rfl rfl fun a E => ?_
  refine k_all [6, 13] (by kernel_rfl) rfl (all_c ?_ (all_c ?_ (all_n)))
  rotate_left
  · refine wpOp_of_list (o := _) rfl ?_
    refine l_val E ok (y_min rfl rfl) rfl rfl fun a E => ?_
    refine wpList_nil ?_
    refine t_norm ?_
    refine k_next (cl1 ⟨m3, _, le_m3, ok, ⟨memAt 0 rfl, trivial⟩⟩ ⟨m3, _, le_m3, ok, trivial⟩) fun hT => ?_
    refine k_take 14 E rfl (by kernel_rfl) nP hT (y_sslice Tryd.underlying9 e30 rfl ⟨_, rfl⟩ rfl) rfl rfl fun a E => ?_
    refine k_all [6] (by kernel_rfl) rfl (one_c ?_)
    · refine wpOp_of_list (o := _) rfl ?_
      refine l_call E go_45 rfl (decimal_trimmed_w N s24 (cat_len e25) e27 hG ok) rfl rfl ?_
      rintro _ w ⟨⟨rfl, ok⟩, l32⟩
      refine ⟨_, rfl, fun a E => ?_⟩
      refine wpList_nil ?_
      refine t_norm ?_
      refine k_next (cl1 ⟨m3, _, le_m3, ok, ⟨memAt 0 rfl, trivial⟩⟩ ⟨m3, _, le_m3, ok, trivial⟩) fun hT => ?_
      refine k_take 15 E rfl (by kernel_rfl) nP hT (y_fieldAddr fo_58_1 rfl) rfl rfl fun a E => ?_
      refine k_all [16] (by kernel_rfl) rfl (one_c ?_)
      · refine wpOp_of_list (o := _) rfl ?_
        refine l_storeB E ok 0 rfl rfl rfl inf_9 rfl rfl ⟨rfl, trivial⟩ rfl rfl fun w ok => ?_
        refine wpList_nil ?_
        refine t_norm ?_
        refine k_next (cl2 (by kernel_rfl) ⟨m3, _, le_m3, ok, trivial⟩) fun hT => ?_
        refine k_take 17 E rfl (by kernel_rfl) nP hT (y_fieldAddr fo_58_2 rfl) rfl rfl fun a E => ?_
        refine k_all [18] (by kernel_rfl) rfl (one_c ?_)
        · refine wpOp_of_list (o := _) rfl ?_
          refine l_storeB E ok 0 rfl rfl rfl inf_9 rfl rfl ⟨rfl, trivial⟩ rfl rfl fun w ok => ?_
          refine wpList_nil ?_
          refine t_norm ?_
          refine k_next (cl2 (by kernel_rfl) ⟨m3, _, le_m3, ok, trivial⟩) fun hT => ?_
          refine k_done (by kernel_rfl) ?_
          exact ⟨rfl, ⟨ok, E.keep [6], l32, (Nat.le_trans (slc_len e30) l7)⟩⟩
  refine wpOp_of_list (o := _) rfl ?_
  refine l_call E go_45 rfl (decimal_trimmed_w N s24 (cat_len e25) e27 hG ok) rfl rfl ?_
  rintro _ w ⟨⟨rfl, ok⟩, l31⟩
  refine ⟨_, rfl, fun a E => ?_⟩
  refine wpList_nil ?_
  refine t_norm ?_
  refine k_next (cl1 ⟨m3, _, le_m3, ok, ⟨memAt 0 rfl, trivial⟩⟩ ⟨m3, _, le_m3, ok, trivial⟩) fun hT => ?_
  refine k_take 15 E rfl (by kernel_rfl) nP hT (y_fieldAddr fo_58_1 rfl) rfl rfl fun a E => ?_
  refine k_all [13, 16] (by kernel_rfl) rfl (all_c ?_ (all_c ?_ (all_n)))
  · refine wpOp_of_list (o := _) rfl ?_
    refine l_val E ok (y_min rfl rfl) rfl rfl fun a E => ?_
    refine wpList_nil ?_
    refine t_norm ?_
    refine k_next (cl1 ⟨m3, _, le_m3, ok, ⟨memAt 0 rfl, trivial⟩⟩ ⟨m3, _, le_m3, ok, trivial⟩) fun hT => ?_
    refine k_take 14 E rfl (by kernel_rfl) nP hT (y_sslice Tryd.underlying9 e30 rfl ⟨_, rfl⟩ rfl) rfl rfl fun a E => ?_
    refine k_all [16] (by kernel_rfl) rfl (one_c ?_)
    · refine wpOp_of_list (o := _) rfl ?_
      refine l_storeB E ok 0 rfl rfl rfl inf_9 rfl rfl ⟨rfl, trivial⟩ rfl rfl fun w ok => ?_
      refine wpList_nil ?_
      refine t_norm ?_
      refine k_next (cl2 (by kernel_rfl) ⟨m3, _, le_m3, ok, trivial⟩) fun hT => ?_
      refine k_take 17 E rfl (by kernel_rfl) nP hT (y_fieldAddr fo_58_2 rfl) rfl rfl fun a E => ?_
      refine k_all [18] (by kernel_rfl) rfl (one_c ?_)
      · refine wpOp_of_list (o := _) rfl ?_
        refine l_storeB E ok 0 rfl rfl rfl inf_9 rfl rfl ⟨rfl, trivial⟩ rfl rfl fun w ok => ?_
        refine wpList_nil ?_
        refine t_norm ?_
        refine k_next (cl2 (by kernel_rfl) ⟨m3, _, le_m3, ok, trivial⟩) fun hT => ?_
        refine k_done (by kernel_rfl) ?_
        exact ⟨rfl, ⟨ok, E.keep [6], l31, (Nat.le_trans (slc_len e30) l7)⟩⟩
  refine wpOp_of_list (o := _) rfl ?_
  refine l_storeB E ok 0 rfl rfl rfl inf_9 rfl rfl ⟨rfl, trivial⟩ rfl rfl fun w ok => ?_
  refine wpList_nil ?_
  refine t_norm ?_
  refine k_next (cl2 (by kernel_rfl) ⟨m3, _, le_m3, ok, trivial⟩) fun hT => ?_
  refine k_all [13] (by kernel_rfl) rfl (one_c ?_)
  · refine wpOp_of_list (o := _) rfl ?_
    refine l_val E ok (y_min rfl rfl) rfl rfl fun a E => ?_
    refine wpList_nil ?_
    refine t_norm ?_
    refine k_next (cl2 (by kernel_rfl) ⟨m3, _, le_m3, ok, trivial⟩) fun hT => ?_
    refine k_take 14 E rfl (by kernel_rfl) nP hT (y_sslice Tryd.underlying9 e30 rfl ⟨_, rfl⟩ rfl) rfl rfl fun a E => ?_
    refine k_take 17 E rfl (by kernel_rfl) nP hT (y_fieldAddr fo_58_2 rfl) rfl rfl fun a E => ?_
    refine k_all [18] (by kernel_rfl) rfl (one_c ?_)
    · refine wpOp_of_list (o := _) rfl ?_
      refine l_storeB E ok 0 rfl rfl rfl inf_9 rfl rfl ⟨rfl, trivial⟩ rfl rfl fun w ok => ?_
      refine wpList_nil ?_
      refine t_norm ?_
      refine k_next (cl2 (by kernel_rfl) ⟨m3, _, le_m3, ok, trivial⟩) fun hT => ?_
      refine k_done (by kernel_rfl) ?_
      exact ⟨rfl, ⟨ok, E.keep [6], l31, (Nat.le_trans (slc_len e30) l7)⟩⟩

theorem strings_Join_w {u : World} {m0 : Mem} {S : Segs} {w : World} (N : Nat) (vp0_0 : Value) (p0_0 : List (List UInt8)) (hp0_0 : (pL 1 pS) m0 [vp0_0] p0_0) (p1_1 : List UInt8) (lp1_1 : p1_1.length ≤ LIMS) {r : (List UInt8)} (hF : strings_Join N p0_0 p1_1 = some r) (hG : Glob u) (ok : Ok u m0 S w) :
    Calls Tryd.prog 27 [vp0_0, Value.string (bs p1_1)].toArray w fun e w' => (e = .returned (.string (bs r)) ∧ Ok u m0 S w') ∧ r.length ≤ LIMS := lib_Join Tryd.lays156 Tryd.Builder_Extra_156 vp0_0 p0_0 hp0_0 p1_1 hF ok

def number_Group_R (u : World) (m0 : Mem) (S : Segs) (r : (List UInt8)) (a : Act) (w : World) : Prop :=
  Ok u m0 S w ∧ a.defers = [] ∧ RVs Tryd.prog a w [.t 4 (.string (bs r))] ∧ r.length ≤ LIMS
set_option maxHeartbeats 4000000 in
set_option maxRecDepth 100000 in
theorem number_Group_w {u : World} {m0 : Mem} {S : Segs} {w : World} (N : Nat) (vx_0 : List Value) (x_0 : Symbols) (hx_0 : pSymbols m0 vx_0 x_0) (digits_1 : List UInt8) (ldigits_1 : digits_1.length ≤ LIMS) {r : (List UInt8)} (hF : number_Group N x_0 digits_1 = some r) (hG : Glob u) (ok : Ok u m0 S w) :
    Calls Tryd.prog 12 [.agg vx_0.toArray, Value.string (bs digits_1)].toArray w fun e w' => (e = .returned (.string (bs r)) ∧ Ok u m0 S w') ∧ r.length ≤ LIMS := by
  obtain ⟨rfl, l1, l2, l3, l4, r5, r6⟩ := hx_0
  have hb0 := ok.base
  have le_m0 := Mem.le.refl m0
  unfold number_Group at hF
  have fin : ∀ a w, number_Group_R u m0 S r a w → bodyPost Tryd.prog Tryd.f12 (fun e w' => (e = .returned (.string (bs r)) ∧ Ok u m0 S w') ∧ r.length ≤ LIMS) .ret a w := by
    intro a w h
    obtain ⟨ok, hd, hrv, h0⟩ := h
    exact c_ret2 [.t 4 (.string (bs r))] hd rfl hrv ⟨⟨rfl, ok⟩, h0⟩
  refine enter Tryd.func12 rfl rfl rfl fun a E => ?_
  refine wp_seq ?_
  refine c_region ?_
  refine l_box E ok rfl rfl rfl fun b7 a w E ok => ?_
  refine l_val E ok (y_assign rfl) rfl rfl fun a E => ?_
  refine wpList_nil ?_
  refine t_norm ?_
  refine wp_seq ?_
  refine wp_seq ?_
  refine c_region ?_
  refine l_val E ok (y_fieldAddr fo_23_4 rfl) rfl rfl fun a E => ?_
  refine l_val E ok (y_load one_3 rfl (Holds.own 0 rfl rfl)) rfl rfl fun a E => ?_
  refine l_val E ok (y_lss rfl rfl) rfl rfl fun a E => ?_
  refine l_val E ok (y_move rfl) rfl rfl fun a E => ?_
  refine bsplit (decide (x_0.Primary < 1)) (fun hc8 => ?_) (fun hc8 => ?_)
  · replace hF := cond_t hc8 hF
    replace E := E.upd 12 hc8 rfl
    refine l_skip E rfl rfl fun a E => ?_
    refine l_skip E rfl rfl fun a E => ?_
    refine l_skip E rfl rfl fun a E => ?_
    refine l_skip E rfl rfl fun a E => ?_
    refine l_skip E rfl rfl fun a E => ?_
    refine l_val E ok (y_pickT rfl rfl) rfl rfl fun a E => ?_
    refine wpList_nil ?_
    refine t_norm ?_
    refine c_if E rfl (fun _ => ?_) (fun h => by cases h)
    refine wp_seq ?_
    refine c_region ?_
    refine l_val E ok (y_move rfl) rfl rfl fun a E => ?_
    refine l_val E ok (y_assign rfl) rfl rfl fun a E => ?_
    refine wpList_nil ?_
    refine t_norm ?_
    refine wp_ret ?_
    refine t_ret ?_
    have hret : number_Group_R u m0 S digits_1 a w := ⟨ok.drop, E.d, ⟨rv_t E rfl, trivial⟩, ldigits_1⟩
    obtain rfl := Option.some.inj hF
    exact fin _ _ hret
  replace hF := cond_f hc8 hF
  replace E := E.upd 12 hc8 rfl
  refine l_val E ok (y_move rfl) rfl rfl fun a E => ?_
  refine l_val E ok (y_slen Tryd.underlying9 rfl) rfl rfl fun a E => ?_
  refine l_val E ok (y_fieldAddr fo_23_4 rfl) rfl rfl fun a E => ?_
  refine l_val E ok (y_load one_3 rfl (Holds.own 0 rfl rfl)) rfl rfl fun a E => ?_
  refine l_val E ok (y_leq rfl rfl) rfl rfl fun a E => ?_
  refine l_val E ok (y_pickF rfl rfl) rfl rfl fun a E => ?_
  refine wpList_nil ?_
  refine t_norm ?_
  refine c_if E rfl (fun hc9 => ?_) (fun hc9 => ?_)
  · replace hF := cond_t hc9 hF
    refine wp_seq ?_
    refine c_region ?_
    refine l_val E ok (y_move rfl) rfl rfl fun a E => ?_
    refine l_val E ok (y_assign rfl) rfl rfl fun a E => ?_
    refine wpList_nil ?_
    refine t_norm ?_
    refine wp_ret ?_
    refine t_ret ?_
    have hret : number_Group_R u m0 S digits_1 a w := ⟨ok.drop, E.d, ⟨rv_t E rfl, trivial⟩, ldigits_1⟩
    obtain rfl := Option.some.inj hF
    exact fin _ _ hret
  replace hF := cond_f hc9 hF
  refine wp_skip ?_
  refine t_norm ?_
  refine wp_seq ?_
  refine c_region ?_
  refine l_val E ok (y_fieldAddr fo_23_5 rfl) rfl rfl fun a E => ?_
  refine l_val E ok (y_load one_3 rfl (Holds.own 0 rfl rfl)) rfl rfl fun a E => ?_
  refine l_val E ok (y_assign rfl) rfl rfl fun a E => ?_
  refine wpList_nil ?_
  refine t_norm ?_
  refine wp_seq ?_
  refine wp_seq ?_
  refine c_region ?_
  refine l_val E ok (y_move rfl) rfl rfl fun a E => ?_
  refine l_val E ok (y_lss rfl rfl) rfl rfl fun a E => ?_
  refine wpList_nil ?_
  refine t_norm ?_
  obtain ⟨o10, hJ, hF⟩ := bnd hF
  refine c_mono (Q' := fun e a w => e = .normal ∧ Ok u m0 ([(b7, Obj.cells [(Value.string (bs x_0.Decimal)), (Value.string (bs x_0.Group)), (Value.string (bs x_0.Minus)), (Value.string (bs x_0.Percent)), (Value.int .i64 x_0.Primary), (Value.int .i64 x_0.Secondary)].toArray 23 (0, 0))] :: S) w ∧ Env 60 a [(1, (Value.string (bs digits_1))), (2, (Value.pointer (some ⟨b7, 0, none⟩))), (5, (Value.int .i64 o10))] ∧ InR .i64 o10) ?_ ?_
  · replace hF := hJ
    clear hJ
    refine c_if E rfl (fun hc12 => ?_) (fun hc12 => ?_)
    rotate_left
    · replace hF := cond_f hc12 hF
      refine wp_skip ?_
      obtain rfl := Option.some.inj hF
      exact ⟨rfl, ⟨ok, E.keep [1, 2, 5], r6⟩⟩
    replace hF := cond_t hc12 hF
    refine c_region ?_
    refine l_val E ok (y_fieldAddr fo_23_4 rfl) rfl rfl fun a E => ?_
    refine l_val E ok (y_load one_3 rfl (Holds.own 0 rfl rfl)) rfl rfl fun a E => ?_
    refine l_val E ok (y_assign rfl) rfl rfl fun a E => ?_
    refine wpList_nil ?_
    obtain rfl := Option.some.inj hF
    exact ⟨rfl, ⟨ok, E.keep [1, 2, 5], r5⟩⟩
  clear hJ
  intro e a w hO
  obtain ⟨rfl, ok, E, r13⟩ := hO
  refine t_norm ?_
  refine wp_seq ?_
  refine c_region ?_
  refine l_val E ok (y_move rfl) rfl rfl fun a E => ?_
  refine l_val E ok (y_slen Tryd.underlying9 rfl) rfl rfl fun a E => ?_
  refine l_val E ok (y_fieldAddr fo_23_4 rfl) rfl rfl fun a E => ?_
  refine l_val E ok (y_load one_3 rfl (Holds.own 0 rfl rfl)) rfl rfl fun a E => ?_
  refine l_val E ok (y_subw rfl rfl) rfl rfl fun a E => ?_
  refine l_val E ok (y_assign rfl) rfl rfl fun a E => ?_
  refine wpList_nil ?_
  refine t_norm ?_
  refine wp_seq ?_
  refine c_region ?_
  refine l_val E ok (y_move rfl) rfl rfl fun a E => ?_
  refine l_val E ok (y_move rfl) rfl rfl fun a E => ?_
  obtain ⟨s14, e15, hF⟩ := bnd hF
  refine l_val E ok (y_sslice Tryd.underlying9 e15 rfl ⟨_, rfl⟩ rfl) rfl rfl fun a E => ?_
  refine l_slit (R := pS) (xo := [.tmp 33]) (xs := ([s14] : List (List UInt8))) E ok sl_33 zero_9 rfl ⟨⟨_, rfl, rfl, (pS_mk (Nat.le_trans (slc_len e15) ldigits_1))⟩, trivial⟩ rfl rfl rfl rfl fun c16 M17 a w E ok h18 => ?_
  refine l_val E ok (y_assign rfl) rfl rfl fun a E => ?_
  refine wpList_nil ?_
  refine t_norm ?_
  refine wp_seq ?_
  refine wp_seq ?_
  refine c_region ?_
  refine l_val E ok (y_move rfl) rfl rfl fun a E => ?_
  refine l_val E ok (y_move rfl) rfl rfl fun a E => ?_
  obtain ⟨s19, e20, hF⟩ := bnd hF
  refine l_val E ok (y_sslice Tryd.underlying9 e20 rfl rfl ⟨_, rfl⟩) rfl rfl fun a E => ?_
  refine l_val E ok (y_assign rfl) rfl rfl fun a E => ?_
  refine wpList_nil ?_
  refine t_norm ?_
  refine wp_block ?_
  obtain ⟨o25, hL, hF⟩ := bnd hF
  refine c_loop _ (fun (s : (List (List UInt8)) × (List UInt8)) a w => ∃ c26 M27, Ok u m0 (M27 :: [(b7, Obj.cells [(Value.string (bs x_0.Decimal)), (Value.string (bs x_0.Group)), (Value.string (bs x_0.Minus)), (Value.string (bs x_0.Percent)), (Value.int .i64 x_0.Primary), (Value.int .i64 x_0.Secondary)].toArray 23 (0, 0))] :: S) w ∧ Env 60 a [(2, (Value.pointer (some ⟨b7, 0, none⟩))), (5, (Value.int .i64 o10)), (7, c26), (8, (Value.string (bs s.2)))] ∧ ORow 9 1 pS m0 c26 s.1 M27 ∧ s.2.length ≤ LIMS) (fun (b : ((List (List UInt8)))) e a w => e = (.exit 0) ∧ ∃ c62 M63, Ok u m0 (M63 :: [(b7, Obj.cells [(Value.string (bs x_0.Decimal)), (Value.string (bs x_0.Group)), (Value.string (bs x_0.Minus)), (Value.string (bs x_0.Percent)), (Value.int .i64 x_0.Primary), (Value.int .i64 x_0.Secondary)].toArray 23 (0, 0))] :: S) w ∧ Env 60 a [(2, (Value.pointer (some ⟨b7, 0, none⟩))), (7, c62)] ∧ ORow 9 1 pS m0 c62 b M63) ?_ ?_ N _ a w hL ⟨c16, M17, ok, E.keep [2, 5, 7, 8], h18, (Nat.le_trans (slc_len e20) ldigits_1)⟩
  rotate_left
  · intro e a w _ hO
    obtain ⟨rfl, c49, M50, ok, E, h51⟩ := hO
    refine b_hit ?_
    refine t_norm ?_
    refine wp_seq ?_
    refine c_region ?_
    refine l_val E ok (y_move rfl) rfl rfl fun a E => ?_
    refine l_call E go_26 rfl (lib_Reverse Tryd.laysNm217 0 rfl h51 ok) rfl rfl ?_
    rintro _ w ⟨rfl, M52, h53, ok⟩
    refine ⟨_, rfl, fun a E => ?_⟩
    refine wpList_nil ?_
    refine t_norm ?_
    refine wp_seq ?_
    refine c_region ?_
    refine l_val E ok (y_move rfl) rfl rfl fun a E => ?_
    refine l_val E ok (y_fieldAddr fo_23_1 rfl) rfl rfl fun a E => ?_
    refine l_val E ok (y_load one_9 rfl (Holds.own 1 rfl rfl)) rfl rfl fun a E => ?_
    obtain ⟨r59, e60, hF⟩ := bnd hF
    obtain ⟨m54, hle56, ok55, hfz57⟩ := (ok.frs 0 rfl).freeze
    have h58 := ORow.froz mS h53 hle56 hfz57 (by decide)
    refine l_call E go_27 rfl (strings_Join_w N _ o25.reverse h58 x_0.Group l2 e60 hG ok55) rfl rfl ?_
    rintro _ w ⟨⟨rfl, okz⟩, l61⟩
    replace ok := (Ok.thawAt 0 rfl ok hle56 hfz57 okz)
    refine ⟨_, rfl, fun a E => ?_⟩
    refine l_val E ok (y_assign rfl) rfl rfl fun a E => ?_
    refine wpList_nil ?_
    refine t_norm ?_
    refine wp_ret ?_
    have hret : number_Group_R u m0 S r59 a w := ⟨ok.drop.drop, E.d, ⟨rv_t E rfl, trivial⟩, l61⟩
    obtain rfl := Option.some.inj hF
    exact fin _ _ hret
  rintro ⟨groups_30, rest_31⟩ a w r ⟨c32, M33, ok, E, h34, l35⟩ hF
  replace hF : number_Group_b1 N o10 groups_30 rest_31 = some r := hF
  unfold number_Group_b1 at hF
  refine wp_seq ?_
  refine wp_seq ?_
  refine c_region ?_
  refine l_val E ok (y_move rfl) rfl rfl fun a E => ?_
  refine l_val E ok (y_sneq rfl rfl) rfl rfl fun a E => ?_
  refine wpList_nil ?_
  refine t_norm ?_
  refine c_if E rfl (fun hc36 => ?_) (fun hc36 => ?_)
  rotate_left
  · replace hF := cond_f hc36 hF
    refine wp_exit ?_
    refine t_exit ?_
    obtain rfl := Option.some.inj hF
    exact step_o (by nofun) (⟨rfl, ⟨c32, M33, ok, E.keep [2, 7], h34⟩⟩)
  replace hF := cond_t hc36 hF
  refine wp_skip ?_
  refine t_norm ?_
  refine wp_block ?_
  refine wp_seq ?_
  refine c_region ?_
  refine l_val E ok (y_move rfl) rfl rfl fun a E => ?_
  refine l_val E ok (y_slen Tryd.underlying9 rfl) rfl rfl fun a E => ?_
  refine l_val E ok (y_move rfl) rfl rfl fun a E => ?_
  refine l_val E ok (y_subw rfl rfl) rfl rfl fun a E => ?_
  refine l_val E ok (y_max rfl rfl) rfl rfl fun a E => ?_
  refine l_val E ok (y_assign rfl) rfl rfl fun a E => ?_
  refine wpList_nil ?_
  refine t_norm ?_
  refine wp_seq ?_
  refine c_region ?_
  refine l_val E ok (y_move rfl) rfl rfl fun a E => ?_
  refine l_val E ok (y_move rfl) rfl rfl fun a E => ?_
  refine l_val E ok (y_move rfl) rfl rfl fun a E => ?_
  obtain ⟨s37, e38, hF⟩ := bnd hF
  refine l_val E ok (y_sslice Tryd.underlying9 e38 rfl ⟨_, rfl⟩ rfl) rfl rfl fun a E => ?_
  refine l_slit (R := pS) (xo := [.tmp 48]) (xs := ([s37] : List (List UInt8))) E ok sl_33 zero_9 rfl ⟨⟨_, rfl, rfl, (pS_mk (Nat.le_trans (slc_len e38) l35))⟩, trivial⟩ rfl rfl rfl rfl fun c39 M40 a w E ok h41 => ?_
  obtain ⟨l42, e43, hF⟩ := bnd hF
  refine l_app (R := pS) E ok 1 mS sl_33 Tryd.underlying33 rfl h34 (SrcOK.ofRow h41 0 rfl ok) e43 ⟨_, zero_9, rfl⟩ rfl rfl rfl rfl fun c44 M45 a w E ok h46 => ?_
  refine l_val E ok (y_assign rfl) rfl rfl fun a E => ?_
  refine wpList_nil ?_
  refine t_norm ?_
  refine c_region ?_
  refine l_val E ok (y_move rfl) rfl rfl fun a E => ?_
  refine l_val E ok (y_move rfl) rfl rfl fun a E => ?_
  obtain ⟨s47, e48, hF⟩ := bnd hF
  refine l_val E ok (y_sslice Tryd.underlying9 e48 rfl rfl ⟨_, rfl⟩) rfl rfl fun a E => ?_
  refine l_val E ok (y_assign rfl) rfl rfl fun a E => ?_
  refine wpList_nil ?_
  refine b_norm ?_
  obtain rfl := Option.some.inj hF
  exact step_n ⟨c44, M45, (ok.pk 3 [1, 2] rfl (by decide)), E.keep [2, 5, 7, 8], h46, (Nat.le_trans (slc_len e48) l35)⟩

end Go.Proofs.YthecjdgffboedaaDoor
