/- Texts of this proof, put together by pack.py: what its declarations name. -/
import Derived.Test.YtidfofhmnlhfjaaGreatDoorPkD3
import Derived.Test.YtidfofhmnlhfjaaGreatDoorCards
import Derived.Test.YtidfofhmnlhfjaaGreatDoorChecked
import Derived.Test.YtidfofhmnlhfjaaGreatDoorProg
import Derived.Test.YtidfofhmnlhfjaaGreatDoorRows
import Derived.Test.YtidfofhmnlhfjaaGreatDoorTie
set_option linter.unusedVariables false
namespace Go.Proofs.YtidfofhmnlhfjaaGreatDoor
open Go.X
variable {u : World} {m0 : Mem} {S : Segs} {w : World}
set_option maxHeartbeats 4000000
set_option maxRecDepth 100000
def pNumber2 : Rp Number2 := fun _ cs x => cs = [.bool x.negative, .string (bs x.whole), .string (bs x.fraction)] ∧ x.whole.length ≤ LIMS ∧ x.fraction.length ≤ LIMS
theorem agg_153 : aggB Tryz.prog 153 3 = true := by kernel_rfl
theorem fo_153_1 : fieldOffB Tryz.prog 153 1 1 = true := by kernel_rfl
theorem fo_153_2 : fieldOffB Tryz.prog 153 2 2 = true := by kernel_rfl
theorem go_104 : goB Tryz.prog 104 = true := by kernel_rfl
theorem go_105 : goB Tryz.prog 105 = true := by kernel_rfl
theorem go_107 : goB Tryz.prog 107 = true := by kernel_rfl
theorem go_108 : goB Tryz.prog 108 = true := by kernel_rfl
theorem go_134 : goB Tryz.prog 134 = true := by kernel_rfl
theorem go_135 : goB Tryz.prog 135 = true := by kernel_rfl
theorem go_136 : goB Tryz.prog 136 = true := by kernel_rfl
theorem go_137 : goB Tryz.prog 137 = true := by kernel_rfl
theorem go_138 : goB Tryz.prog 138 = true := by kernel_rfl
theorem go_139 : goB Tryz.prog 139 = true := by kernel_rfl
theorem go_140 : goB Tryz.prog 140 = true := by kernel_rfl
theorem go_141 : goB Tryz.prog 141 = true := by kernel_rfl
theorem go_155 : goB Tryz.prog 155 = true := by kernel_rfl
theorem go_156 : goB Tryz.prog 156 = true := by kernel_rfl
theorem go_161 : goB Tryz.prog 161 = true := by kernel_rfl
theorem go_162 : goB Tryz.prog 162 = true := by kernel_rfl
theorem go_65 : goB Tryz.prog 65 = true := by kernel_rfl
theorem go_66 : goB Tryz.prog 66 = true := by kernel_rfl
theorem go_67 : goB Tryz.prog 67 = true := by kernel_rfl
theorem go_68 : goB Tryz.prog 68 = true := by kernel_rfl
theorem go_70 : goB Tryz.prog 70 = true := by kernel_rfl
theorem go_71 : goB Tryz.prog 71 = true := by kernel_rfl
theorem go_72 : goB Tryz.prog 72 = true := by kernel_rfl
theorem go_74 : goB Tryz.prog 74 = true := by kernel_rfl
theorem inf_153 : ∃ i, Tryz.prog.info? 153 = some i ∧ i.size = 3 := ⟨_, rfl, by kernel_rfl⟩
theorem places_153 : placesB Tryz.prog 153 = some [(0, 1), (1, 1), (2, 1)] := by kernel_rfl
theorem sl_160 : SlT Tryz.prog 160 5 1 := SlT.of (by kernel_rfl)
theorem zero_153 : zeroB Tryz.prog 153 = some [vb false, (vs ([])), (vs ([]))] := by kernel_rfl
theorem zero_5 : zeroB Tryz.prog 5 = some [(Value.int .u8 0)] := by kernel_rfl
theorem strings_CutPrefix_w {u : World} {m0 : Mem} {S : Segs} {w : World} (N : Nat) (p0_0 : List UInt8) (lp0_0 : p0_0.length ≤ LIMS) (p1_1 : List UInt8) (lp1_1 : p1_1.length ≤ LIMS) {r : (List UInt8) × Bool} (hF : strings_CutPrefix N p0_0 p1_1 = some r) (hG : Glob u) (ok : Ok u m0 S w) :
  Calls Tryz.prog 134 [vs p0_0, vs p1_1].toArray w fun e w' => (e = .returned (.tuple [(.string (bs r.1)), (.bool r.2)].toArray) ∧ Ok u m0 S w') ∧ r.1.length ≤ LIMS := lib_CutPrefix Tryz.lays103 p0_0 p1_1 hF lp0_0 ok
theorem strings_Cut_w (N : Nat) (p0_0 : List UInt8) (lp0_0 : p0_0.length ≤ LIMS) (p1_1 : List UInt8) (lp1_1 : p1_1.length ≤ LIMS) {r : (List UInt8) × (List UInt8) × Bool} (hF : strings_Cut N p0_0 p1_1 = some r) (hG : Glob u) (ok : Ok u m0 S w) :
  Calls Tryz.prog 135 [vs p0_0, vs p1_1].toArray w fun e w' => (e = .returned (.tuple [(.string (bs r.1)), (.string (bs r.2.1)), (.bool r.2.2)].toArray) ∧ Ok u m0 S w') ∧ r.1.length ≤ LIMS ∧ r.2.1.length ≤ LIMS := by
 obtain ⟨mx, hmx⟩ := hG
 exact lib_Cut Tryz.lays145 hmx p0_0 p1_1 hF lp0_0 ok
theorem strings_Trim_w {u : World} {m0 : Mem} {S : Segs} {w : World} (N : Nat) (p0_0 : List UInt8) (lp0_0 : p0_0.length ≤ LIMS) (p1_1 : List UInt8) (lp1_1 : p1_1.length ≤ LIMS) {r : (List UInt8)} (hF : strings_Trim N p0_0 p1_1 = some r) (hG : Glob u) (ok : Ok u m0 S w) :
  Calls Tryz.prog 155 [vs p0_0, vs p1_1].toArray w fun e w' => (e = .returned (.string (bs r)) ∧ Ok u m0 S w') ∧ r.length ≤ LIMS := lib_Trim Tryz.lays160 (by kernel_rfl) p0_0 p1_1 hF lp0_0 ok
def decimal_digits_R (u : World) (m0 : Mem) (S : Segs) (r : Bool) (a : Act) (w : World) : Prop :=
 Ok u m0 S w ∧ a.defers = [] ∧ RVs Tryz.prog a w [.t 2 (.bool r)]
theorem decimal_digits_w (N : Nat) (s_0 : List UInt8) (ls_0 : s_0.length ≤ LIMS) {r : Bool} (hF : decimal_digits N s_0 = some r) (hG : Glob u) (ok : Ok u m0 S w) :
  Calls Tryz.prog 136 [vs s_0].toArray w fun e w' => (e = .returned (.bool r) ∧ Ok u m0 S w') := by
 unfold decimal_digits at hF
 refine en (decimal_digits_R u m0 S) r Tryz.func136 rfl rfl rfl (by rintro a w ⟨ok, hd, hrv⟩; exact c_ret2 [.t 2 (.bool r)] hd rfl hrv ⟨rfl, ok⟩) fun fin a E => sg <| aw E rfl fun a E => sg ?_
 refine mv E rfl fun a E => ?_
 obtain ⟨r1, e2, hF⟩ := bnd hF
 refine l_call E go_155 rfl (strings_Trim_w N s_0 ls_0 ([48, 49, 50, 51, 52, 53, 54, 55, 56, 57]) (show ([48, 49, 50, 51, 52, 53, 54, 55, 56, 57] : List UInt8).length ≤ LIMS by decide) e2 hG ok) rfl rfl ?_
 rintro _ w ⟨⟨rfl, ok⟩, l3⟩
 refine ⟨_, rfl, fun a E => ?_⟩
 refine lw E (y_seql rfl rfl) fun a E => aw E rfl fun a E => wp_ret ?_
 exact fin hF ⟨ok, E.d, ⟨rv_t E rfl, trivial⟩⟩
def decimal_zero_R (u : World) (m0 : Mem) (S : Segs) (r : Bool) (a : Act) (w : World) : Prop :=
 Ok u m0 S w ∧ a.defers = [] ∧ RVs Tryz.prog a w [.t 2 (.bool r)]
theorem decimal_zero_w (N : Nat) (s_0 : List UInt8) (ls_0 : s_0.length ≤ LIMS) {r : Bool} (hF : decimal_zero N s_0 = some r) (hG : Glob u) (ok : Ok u m0 S w) :
  Calls Tryz.prog 156 [vs s_0].toArray w fun e w' => (e = .returned (.bool r) ∧ Ok u m0 S w') := by
 unfold decimal_zero at hF
 refine en (decimal_zero_R u m0 S) r Tryz.func156 rfl rfl rfl (by rintro a w ⟨ok, hd, hrv⟩; exact c_ret2 [.t 2 (.bool r)] hd rfl hrv ⟨rfl, ok⟩) fun fin a E => sg <| aw E rfl fun a E => sg ?_
 refine mv E rfl fun a E => ?_
 obtain ⟨r1, e2, hF⟩ := bnd hF
 refine l_call E go_155 rfl (strings_Trim_w N s_0 ls_0 ([48]) (show ([48] : List UInt8).length ≤ LIMS by decide) e2 hG ok) rfl rfl ?_
 rintro _ w ⟨⟨rfl, ok⟩, l3⟩
 refine ⟨_, rfl, fun a E => ?_⟩
 refine lw E (y_seql rfl rfl) fun a E => aw E rfl fun a E => wp_ret ?_
 exact fin hF ⟨ok, E.d, ⟨rv_t E rfl, trivial⟩⟩
def decimal_number_zero_R (u : World) (m0 : Mem) (S : Segs) (r : Bool) (a : Act) (w : World) : Prop :=
 Ok u m0 S w ∧ a.defers = [] ∧ RVs Tryz.prog a w [.t 2 (.bool r)]
theorem decimal_number_zero_w (N : Nat) (vx_0 : List Value) (x_0 : Number2) (hx_0 : pNumber2 m0 vx_0 x_0) {r : Bool} (hF : decimal_number_zero N x_0 = some r) (hG : Glob u) (ok : Ok u m0 S w) :
  Calls Tryz.prog 137 [.agg vx_0.toArray].toArray w fun e w' => (e = .returned (.bool r) ∧ Ok u m0 S w') := by
 obtain ⟨rfl, l1, l2⟩ := hx_0
 unfold decimal_number_zero at hF
 refine en (decimal_number_zero_R u m0 S) r Tryz.func137 rfl rfl rfl (by rintro a w ⟨ok, hd, hrv⟩; exact c_ret2 [.t 2 (.bool r)] hd rfl hrv ⟨rfl, ok⟩) fun fin a E => sg <| l_box E ok rfl rfl rfl fun b3 a w E ok => aw E rfl fun a E => wp_seq ?_
 refine c_region <| fv E fo_153_1 rfl fun a E => ld E ok one_9 0 rfl rfl rfl fun a E => ?_
 obtain ⟨r4, e5, hF⟩ := bnd hF
 refine lc E go_156 rfl (decimal_zero_w N x_0.whole l1 e5 hG ok) fun w ok a E => mv E rfl fun a E => bsplit r4 (fun hc6 => ?_) (fun hc6 => ?_)
 rotate_left
 ·replace hF := cond_f hc6 hF
  replace E := E.upd 6 hc6 rfl
  refine ls E fun a E => ls E fun a E => ls E fun a E => pf E rfl rfl fun a E => aw E rfl fun a E => wp_ret ?_
  exact fin hF ⟨ok.drop, E.d, ⟨rv_t E rfl, trivial⟩⟩
 replace hF := cond_t hc6 hF
 replace E := E.upd 6 hc6 rfl
 refine fv E fo_153_2 rfl fun a E => ld E ok one_9 0 rfl rfl rfl fun a E => ?_
 obtain ⟨r7, e8, hF⟩ := bnd hF
 refine lc E go_156 rfl (decimal_zero_w N x_0.fraction l2 e8 hG ok) fun w ok a E => pt E rfl rfl fun a E => aw E rfl fun a E => wp_ret ?_
 exact fin hF ⟨ok.drop, E.d, ⟨rv_t E rfl, trivial⟩⟩
def decimal_split_R (u : World) (m0 : Mem) (S : Segs) (r : Number2 × Bool) (a : Act) (w : World) : Prop :=
 ∃ m1 v0, m0.le m1 ∧ Ok u m1 S w ∧ a.defers = [] ∧ RVs Tryz.prog a w [.c 2 153 (.agg v0.toArray), .t 3 (.bool r.2)] ∧ pNumber2 m1 v0 r.1
theorem decimal_split_w (N : Nat) (s_0 : List UInt8) (ls_0 : s_0.length ≤ LIMS) {r : Number2 × Bool} (hF : decimal_split N s_0 = some r) (hG : Glob u) (ok : Ok u m0 S w) :
  Calls Tryz.prog 104 [vs s_0].toArray w fun e w' => ∃ m1 v0, e = .returned (.tuple [(.agg v0.toArray), (.bool r.2)].toArray) ∧ m0.le m1 ∧ Ok u m1 S w' ∧ pNumber2 m1 v0 r.1 := by
 have le_m0 := Mem.le.refl m0
 unfold decimal_split at hF
 refine en (decimal_split_R u m0 S) r Tryz.func104 rfl rfl rfl (by rintro a w ⟨m1, v0, hle, ok, hd, hrv, h0⟩; exact c_ret2 [.c 2 153 (.agg v0.toArray), .t 3 (.bool r.2)] hd rfl hrv ⟨m1, v0, rfl, hle, ok, h0⟩) fun fin a E => sg <| l_alloc E ok zero_153 rfl rfl fun b1 a w E ok => aw E rfl fun a E => wp_seq ?_
 refine c_region <| mv E rfl fun a E => ?_
 obtain ⟨r2, e3, hF⟩ := bnd hF
 refine l_call E go_134 rfl (strings_CutPrefix_w N s_0 ls_0 ([45]) (show ([45] : List UInt8).length ≤ LIMS by decide) e3 hG ok) rfl rfl ?_
 rintro _ w ⟨⟨rfl, ok⟩, l4⟩
 refine ⟨_, rfl, fun a E => ?_⟩
 refine mv E rfl fun a E => lw E (y_extract rfl rfl) fun a E => lw E (y_extract rfl rfl) fun a E => av E rfl fun a E => aw E rfl fun a E => wp_seq ?_
 refine c_region <| mv E rfl fun a E => ?_
 obtain ⟨r5, e6, hF⟩ := bnd hF
 refine l_call E go_135 rfl (strings_Cut_w N r2.1 l4 ([46]) (show ([46] : List UInt8).length ≤ LIMS by decide) e6 hG ok) rfl rfl ?_
 rintro _ w ⟨⟨rfl, ok⟩, l7, l8⟩
 refine ⟨_, rfl, fun a E => ?_⟩
 refine mv E rfl fun a E => lw E (y_extract rfl rfl) fun a E => lw E (y_extract rfl rfl) fun a E => lw E (y_extract rfl rfl) fun a E => av E rfl fun a E => av E rfl fun a E => av E rfl fun a E => wpList_nil ?_
 refine t_norm <| sg <| mv E rfl fun a E => mv E rfl fun a E => mv E rfl fun a E => lw E (y_build (ps := [(0, .tmp 21), (1, .tmp 22), (2, .tmp 23)]) (qs := [(0, [vb r2.2]), (1, [vs r5.1]), (2, [vs r5.2.1])]) (cs := [vb r2.2, vs r5.1, vs r5.2.1]) zero_153 places_153 rfl ⟨rfl, rfl, rfl, ⟨rfl, rfl, rfl, ⟨rfl, rfl, rfl, trivial⟩⟩⟩ rfl) fun a E => l_alloc E ok zero_153 rfl rfl fun b9 a w E ok => ?_
 refine l_storeB E ok 0 rfl rfl rfl inf_153 rfl rfl ⟨rfl, rfl, rfl, trivial⟩ rfl rfl fun w ok => wn <| wp_seq <| wp_block <| sg <| mv E rfl fun a E => ?_
 refine lw E (y_slen Tryz.underlying9 rfl) fun a E => lw E (y_lss rfl rfl) fun a E => mv E rfl fun a E => bsplit (decide ((r5.1.length : Int) < 1)) (fun hc10 => ?_) (fun hc10 => ?_)
 ·replace hF := cond_t hc10 hF
  replace E := E.upd 29 hc10 rfl
  refine ls E fun a E => ls E fun a E => ls E fun a E => pt E rfl rfl fun a E => mv E rfl fun a E => ls E fun a E => ls E fun a E => ls E fun a E => ?_
  refine pt E rfl rfl fun a E => mv E rfl fun a E => ls E fun a E => ls E fun a E => ls E fun a E => ls E fun a E => ls E fun a E => ls E fun a E => ?_
  refine ls E fun a E => ls E fun a E => pt E rfl rfl fun a E => aw E rfl fun a E => c_if E rfl (fun _ => ?_) (fun h => by cases h)
  refine sg <| lv E ok (y_loadAgg (cs := [vb r2.2, vs r5.1, vs r5.2.1]) agg_153 rfl rfl (Holds.own 0 rfl rfl)) fun a E => l_storeB E ok 1 rfl rfl rfl inf_153 rfl rfl ⟨rfl, rfl, rfl, trivial⟩ rfl rfl fun w ok => aw E rfl fun a E => wp_ret ?_
  refine b_ret <| t_ret ?_
  exact fin hF ⟨m0, [vb r2.2, vs r5.1, vs r5.2.1], le_m0, ok.drop.drop, E.d, ⟨rv_c (cs := [vb r2.2, vs r5.1, vs r5.2.1]) E ok rfl agg_153 rfl (Holds.own 1 rfl rfl), rv_t E rfl, trivial⟩, ⟨rfl, l7, l8⟩⟩
 replace hF := cond_f hc10 hF
 replace E := E.upd 29 hc10 rfl
 refine mv E rfl fun a E => lw E (y_slen Tryz.underlying9 rfl) fun a E => lw E (y_gtr rfl rfl) fun a E => pf E rfl rfl fun a E => mv E rfl fun a E => bsplit (decide ((r5.1.length : Int) > 15)) (fun hc11 => ?_) (fun hc11 => ?_)
 ·replace hF := cond_t hc11 hF
  replace E := E.upd 34 hc11 rfl
  refine ls E fun a E => ls E fun a E => ls E fun a E => pt E rfl rfl fun a E => mv E rfl fun a E => ls E fun a E => ls E fun a E => ls E fun a E => ?_
  refine ls E fun a E => ls E fun a E => ls E fun a E => ls E fun a E => ls E fun a E => pt E rfl rfl fun a E => av E rfl fun a E => wpList_nil ?_
  refine t_norm <| c_if E rfl (fun _ => ?_) (fun h => by cases h)
  refine sg <| lv E ok (y_loadAgg (cs := [vb r2.2, vs r5.1, vs r5.2.1]) agg_153 rfl rfl (Holds.own 0 rfl rfl)) fun a E => l_storeB E ok 1 rfl rfl rfl inf_153 rfl rfl ⟨rfl, rfl, rfl, trivial⟩ rfl rfl fun w ok => aw E rfl fun a E => wp_ret ?_
  refine b_ret <| t_ret ?_
  exact fin hF ⟨m0, [vb r2.2, vs r5.1, vs r5.2.1], le_m0, ok.drop.drop, E.d, ⟨rv_c (cs := [vb r2.2, vs r5.1, vs r5.2.1]) E ok rfl agg_153 rfl (Holds.own 1 rfl rfl), rv_t E rfl, trivial⟩, ⟨rfl, l7, l8⟩⟩
 replace hF := cond_f hc11 hF
 replace E := E.upd 34 hc11 rfl
 refine mv E rfl fun a E => ?_
 obtain ⟨r12, e13, hF⟩ := bnd hF
 refine lc E go_136 rfl (decimal_digits_w N r5.1 l7 e13 hG ok) fun w ok a E => lw E (y_not rfl) fun a E => pf E rfl rfl fun a E => mv E rfl fun a E => bsplit (!r12) (fun hc14 => ?_) (fun hc14 => ?_)
 ·replace hF := cond_t hc14 hF
  replace E := E.upd 39 hc14 rfl
  refine ls E fun a E => ls E fun a E => ls E fun a E => ls E fun a E => ls E fun a E => ls E fun a E => ls E fun a E => ls E fun a E => ?_
  refine pt E rfl rfl fun a E => aw E rfl fun a E => c_if E rfl (fun _ => ?_) (fun h => by cases h)
  refine sg <| lv E ok (y_loadAgg (cs := [vb r2.2, vs r5.1, vs r5.2.1]) agg_153 rfl rfl (Holds.own 0 rfl rfl)) fun a E => l_storeB E ok 1 rfl rfl rfl inf_153 rfl rfl ⟨rfl, rfl, rfl, trivial⟩ rfl rfl fun w ok => aw E rfl fun a E => wp_ret ?_
  refine b_ret <| t_ret ?_
  exact fin hF ⟨m0, [vb r2.2, vs r5.1, vs r5.2.1], le_m0, ok.drop.drop, E.d, ⟨rv_c (cs := [vb r2.2, vs r5.1, vs r5.2.1]) E ok rfl agg_153 rfl (Holds.own 1 rfl rfl), rv_t E rfl, trivial⟩, ⟨rfl, l7, l8⟩⟩
 replace hF := cond_f hc14 hF
 replace E := E.upd 39 hc14 rfl
 refine mv E rfl fun a E => lw E (y_slen Tryz.underlying9 rfl) fun a E => lw E (y_gtr rfl rfl) fun a E => mv E rfl fun a E => bsplit (decide ((r5.1.length : Int) > 1)) (fun hc15 => ?_) (fun hc15 => ?_)
 rotate_left
 ·as_aux_lemma =>
   replace hF := cond_f hc15 hF
   replace E := E.upd 43 hc15 rfl
   refine ls E fun a E => ls E fun a E => ls E fun a E => pf E rfl rfl fun a E => pf E rfl rfl fun a E => aw E rfl fun a E => ?_
   refine c_if E rfl (fun h => by cases h) (fun _ => ?_)
   refine sg <| mv E rfl fun a E => mv E rfl fun a E => bsplit r5.2.2 (fun hc45 => ?_) (fun hc45 => ?_)
   rotate_left
   ·as_aux_lemma =>
     replace hF := cond_f hc45 hF
     replace E := E.upd 52 hc45 rfl
     refine ls E fun a E => ls E fun a E => ls E fun a E => pf E rfl rfl fun a E => mv E rfl fun a E => mv E rfl fun a E => lw E (y_slen Tryz.underlying9 rfl) fun a E => lw E (y_gtr rfl rfl) fun a E => ?_
     refine pf E rfl rfl fun a E => mv E rfl fun a E => bsplit (decide ((r5.2.1.length : Int) > 6)) (fun hc59 => ?_) (fun hc59 => ?_)
     ·replace hF := cond_t hc59 hF
      replace E := E.upd 62 hc59 rfl
      refine ls E fun a E => ls E fun a E => ls E fun a E => pt E rfl rfl fun a E => aw E rfl fun a E => c_if E rfl (fun _ => ?_) (fun h => by cases h)
      refine sg <| lv E ok (y_loadAgg (cs := [vb r2.2, vs r5.1, vs r5.2.1]) agg_153 rfl rfl (Holds.own 0 rfl rfl)) fun a E => l_storeB E ok 1 rfl rfl rfl inf_153 rfl rfl ⟨rfl, rfl, rfl, trivial⟩ rfl rfl fun w ok => aw E rfl fun a E => wp_ret ?_
      refine b_ret <| t_ret ?_
      exact fin hF ⟨m0, [vb r2.2, vs r5.1, vs r5.2.1], le_m0, ok.drop.drop, E.d, ⟨rv_c (cs := [vb r2.2, vs r5.1, vs r5.2.1]) E ok rfl agg_153 rfl (Holds.own 1 rfl rfl), rv_t E rfl, trivial⟩, ⟨rfl, l7, l8⟩⟩
     replace hF := cond_f hc59 hF
     replace E := E.upd 62 hc59 rfl
     refine mv E rfl fun a E => ?_
     obtain ⟨r60, e61, hF⟩ := bnd hF
     refine lc E go_136 rfl (decimal_digits_w N r5.2.1 l8 e61 hG ok) fun w ok a E => lw E (y_not rfl) fun a E => pf E rfl rfl fun a E => aw E rfl fun a E => cf E rfl hF (fun hc62 hF => ?_) fun hc62 hF => ?_
     ·refine sg <| lv E ok (y_loadAgg (cs := [vb r2.2, vs r5.1, vs r5.2.1]) agg_153 rfl rfl (Holds.own 0 rfl rfl)) fun a E => l_storeB E ok 1 rfl rfl rfl inf_153 rfl rfl ⟨rfl, rfl, rfl, trivial⟩ rfl rfl fun w ok => aw E rfl fun a E => wp_ret ?_
      refine b_ret <| t_ret ?_
      exact fin hF ⟨m0, [vb r2.2, vs r5.1, vs r5.2.1], le_m0, ok.drop.drop, E.d, ⟨rv_c (cs := [vb r2.2, vs r5.1, vs r5.2.1]) E ok rfl agg_153 rfl (Holds.own 1 rfl rfl), rv_t E rfl, trivial⟩, ⟨rfl, l7, l8⟩⟩
     refine wp_skip <| b_norm <| t_norm <| wp_seq ?_
     obtain ⟨o63, hJ, hF⟩ := bnd hF
     refine c_mono (Q' := fun e a w => e = .normal ∧ Ok u m0 ([(b9, oc 153 [vb r2.2, vs r5.1, vs r5.2.1])] :: [(b1, oc 153 [vb o63.2.negative, vs o63.2.whole, vs o63.2.fraction])] :: S) w ∧ Env 76 a [(2, vp b1), (3, vb o63.1)] ∧ o63.2.whole.length ≤ LIMS ∧ o63.2.fraction.length ≤ LIMS) ?_ ?_
     rotate_left
     ·clear hJ
      intro e a w hO
      obtain ⟨rfl, ok, E, l69, l70⟩ := hO
      refine t_norm <| wp_ret ?_
      exact fin hF ⟨m0, [vb o63.2.negative, vs o63.2.whole, vs o63.2.fraction], le_m0, ok.drop.drop, E.d, ⟨rv_c (cs := [vb o63.2.negative, vs o63.2.whole, vs o63.2.fraction]) E ok rfl agg_153 rfl (Holds.own 1 rfl rfl), rv_t E rfl, trivial⟩, ⟨rfl, l69, l70⟩⟩
     replace hF := hJ
     clear hJ
     refine bsplit (!r2.2) (fun hc66 => ?_) (fun hc66 => ?_)
     ·replace hF := cond_t hc66 hF
      obtain rfl := sj hF
      refine k_begin [0] (Cls u m0 ([(b9, oc 153 [vb r2.2, vs r5.1, vs r5.2.1])] :: [(b1, oc 153 [vb false, (vs ([])), (vs ([]))])] :: [])) (Cls u m0 ([(b9, oc 153 [vb r2.2, vs r5.1, vs r5.2.1])] :: [])) (by kernel_rfl) ?_
      intro w hw
      replace ok := okdrew ok hw
      clear hw
      refine k_next (cl1 (cq le_m0 ok [0, 1] rfl) (cq le_m0 ok [0] rfl)) fun hT => k_takeN 0 E rfl (by kernel_rfl) nP hT (y_loadAgg (cs := [vb r2.2, vs r5.1, vs r5.2.1]) agg_153 rfl rfl (Holds.cown 0 rfl rfl)) rfl rfl fun a E => kt 1 E rfl hT (y_move rfl) fun a E => kt 2 E rfl hT (y_not rfl) fun a E => kt 3 E rfl hT (y_move rfl) fun a E => ?_
      replace E := E.upd 71 hc66 rfl
      refine k_skip 4 false E rfl (by kernel_rfl) nP hT rfl rfl fun a E => k_skip 5 false E rfl (by kernel_rfl) nP hT rfl rfl fun a E => k_skip 6 false E rfl (by kernel_rfl) nP hT rfl rfl fun a E => kt 7 E rfl hT (y_pickT rfl rfl) fun a E => k_all [8] (by kernel_rfl) rfl (one_c ?_)
      ·refine wo rfl <| l_storeB E ok 1 rfl rfl rfl inf_153 rfl rfl ⟨rfl, rfl, rfl, trivial⟩ rfl rfl fun w ok => wn <| k_next (cl2 (by kernel_rfl) (cq le_m0 ok [0] rfl)) fun hT => kt 9 E rfl hT (y_assign rfl) fun a E => k_done (by kernel_rfl) ?_
       exact ⟨rfl, ⟨ok, E.keep [2, 3], l7, l8⟩⟩
     replace hF := cond_f hc66 hF
     obtain ⟨r67, e68, hF⟩ := bnd hF
     obtain rfl := sj hF
     refine k_begin [0] (Cls u m0 ([(b9, oc 153 [vb r2.2, vs r5.1, vs r5.2.1])] :: [(b1, oc 153 [vb false, (vs ([])), (vs ([]))])] :: [])) (Cls u m0 ([(b9, oc 153 [vb r2.2, vs r5.1, vs r5.2.1])] :: [])) (by kernel_rfl) ?_
     intro w hw
     replace ok := okdrew ok hw
     clear hw
     refine k_next (cl1 (cq le_m0 ok [0, 1] rfl) (cq le_m0 ok [0] rfl)) fun hT => k_takeN 0 E rfl (by kernel_rfl) nP hT (y_loadAgg (cs := [vb r2.2, vs r5.1, vs r5.2.1]) agg_153 rfl rfl (Holds.cown 0 rfl rfl)) rfl rfl fun a E => kt 1 E rfl hT (y_move rfl) fun a E => kt 2 E rfl hT (y_not rfl) fun a E => kt 3 E rfl hT (y_move rfl) fun a E => ?_
     replace E := E.upd 71 hc66 rfl
     refine kt 4 E rfl hT (y_loadAgg (cs := [vb r2.2, vs r5.1, vs r5.2.1]) agg_153 rfl rfl (Holds.cown 0 rfl rfl)) fun a E => k_all [5] (by kernel_rfl) rfl (one_c ?_)
     ·refine wo rfl <| lc E go_137 rfl (decimal_number_zero_w N _ (Number2.mk r2.2 r5.1 r5.2.1) ⟨rfl, l7, l8⟩ e68 hG ok) fun w ok a E => wn <| k_next (cl1 (cq le_m0 ok [0, 1] rfl) (cq le_m0 ok [0] rfl)) fun hT => kt 6 E rfl hT (y_not rfl) fun a E => kt 7 E rfl hT (y_pickF rfl rfl) fun a E => k_all [8] (by kernel_rfl) rfl (one_c ?_)
      ·refine wo rfl <| l_storeB E ok 1 rfl rfl rfl inf_153 rfl rfl ⟨rfl, rfl, rfl, trivial⟩ rfl rfl fun w ok => wn <| k_next (cl2 (by kernel_rfl) (cq le_m0 ok [0] rfl)) fun hT => kt 9 E rfl hT (y_assign rfl) fun a E => k_done (by kernel_rfl) ?_
       exact ⟨rfl, ⟨ok, E.keep [2, 3], l7, l8⟩⟩
   replace hF := cond_t hc45 hF
   replace E := E.upd 52 hc45 rfl
   refine mv E rfl fun a E => lw E (y_slen Tryz.underlying9 rfl) fun a E => lw E (y_eql rfl rfl) fun a E => pt E rfl rfl fun a E => mv E rfl fun a E => bsplit ((r5.2.1.length : Int) == 0) (fun hc46 => ?_) (fun hc46 => ?_)
   ·replace hF := cond_t hc46 hF
    replace E := E.upd 57 hc46 rfl
    refine ls E fun a E => ls E fun a E => ls E fun a E => pt E rfl rfl fun a E => mv E rfl fun a E => ls E fun a E => ls E fun a E => ls E fun a E => ?_
    refine pt E rfl rfl fun a E => aw E rfl fun a E => c_if E rfl (fun _ => ?_) (fun h => by cases h)
    refine sg <| lv E ok (y_loadAgg (cs := [vb r2.2, vs r5.1, vs r5.2.1]) agg_153 rfl rfl (Holds.own 0 rfl rfl)) fun a E => l_storeB E ok 1 rfl rfl rfl inf_153 rfl rfl ⟨rfl, rfl, rfl, trivial⟩ rfl rfl fun w ok => aw E rfl fun a E => wp_ret ?_
    refine b_ret <| t_ret ?_
    exact fin hF ⟨m0, [vb r2.2, vs r5.1, vs r5.2.1], le_m0, ok.drop.drop, E.d, ⟨rv_c (cs := [vb r2.2, vs r5.1, vs r5.2.1]) E ok rfl agg_153 rfl (Holds.own 1 rfl rfl), rv_t E rfl, trivial⟩, ⟨rfl, l7, l8⟩⟩
   replace hF := cond_f hc46 hF
   replace E := E.upd 57 hc46 rfl
   refine mv E rfl fun a E => lw E (y_slen Tryz.underlying9 rfl) fun a E => lw E (y_gtr rfl rfl) fun a E => pf E rfl rfl fun a E => mv E rfl fun a E => bsplit (decide ((r5.2.1.length : Int) > 6)) (fun hc47 => ?_) (fun hc47 => ?_)
   ·replace hF := cond_t hc47 hF
    replace E := E.upd 62 hc47 rfl
    refine ls E fun a E => ls E fun a E => ls E fun a E => pt E rfl rfl fun a E => aw E rfl fun a E => c_if E rfl (fun _ => ?_) (fun h => by cases h)
    refine sg <| lv E ok (y_loadAgg (cs := [vb r2.2, vs r5.1, vs r5.2.1]) agg_153 rfl rfl (Holds.own 0 rfl rfl)) fun a E => l_storeB E ok 1 rfl rfl rfl inf_153 rfl rfl ⟨rfl, rfl, rfl, trivial⟩ rfl rfl fun w ok => aw E rfl fun a E => wp_ret ?_
    refine b_ret <| t_ret ?_
    exact fin hF ⟨m0, [vb r2.2, vs r5.1, vs r5.2.1], le_m0, ok.drop.drop, E.d, ⟨rv_c (cs := [vb r2.2, vs r5.1, vs r5.2.1]) E ok rfl agg_153 rfl (Holds.own 1 rfl rfl), rv_t E rfl, trivial⟩, ⟨rfl, l7, l8⟩⟩
   replace hF := cond_f hc47 hF
   replace E := E.upd 62 hc47 rfl
   refine mv E rfl fun a E => ?_
   obtain ⟨r48, e49, hF⟩ := bnd hF
   refine lc E go_136 rfl (decimal_digits_w N r5.2.1 l8 e49 hG ok) fun w ok a E => lw E (y_not rfl) fun a E => pf E rfl rfl fun a E => aw E rfl fun a E => cf E rfl hF (fun hc50 hF => ?_) fun hc50 hF => ?_
   ·refine sg <| lv E ok (y_loadAgg (cs := [vb r2.2, vs r5.1, vs r5.2.1]) agg_153 rfl rfl (Holds.own 0 rfl rfl)) fun a E => l_storeB E ok 1 rfl rfl rfl inf_153 rfl rfl ⟨rfl, rfl, rfl, trivial⟩ rfl rfl fun w ok => aw E rfl fun a E => wp_ret ?_
    refine b_ret <| t_ret ?_
    exact fin hF ⟨m0, [vb r2.2, vs r5.1, vs r5.2.1], le_m0, ok.drop.drop, E.d, ⟨rv_c (cs := [vb r2.2, vs r5.1, vs r5.2.1]) E ok rfl agg_153 rfl (Holds.own 1 rfl rfl), rv_t E rfl, trivial⟩, ⟨rfl, l7, l8⟩⟩
   refine wp_skip <| b_norm <| t_norm <| wp_seq ?_
   obtain ⟨o51, hJ, hF⟩ := bnd hF
   refine c_mono (Q' := fun e a w => e = .normal ∧ Ok u m0 ([(b9, oc 153 [vb r2.2, vs r5.1, vs r5.2.1])] :: [(b1, oc 153 [vb o51.2.negative, vs o51.2.whole, vs o51.2.fraction])] :: S) w ∧ Env 76 a [(2, vp b1), (3, vb o51.1)] ∧ o51.2.whole.length ≤ LIMS ∧ o51.2.fraction.length ≤ LIMS) ?_ ?_
   rotate_left
   ·clear hJ
    intro e a w hO
    obtain ⟨rfl, ok, E, l57, l58⟩ := hO
    refine t_norm <| wp_ret ?_
    exact fin hF ⟨m0, [vb o51.2.negative, vs o51.2.whole, vs o51.2.fraction], le_m0, ok.drop.drop, E.d, ⟨rv_c (cs := [vb o51.2.negative, vs o51.2.whole, vs o51.2.fraction]) E ok rfl agg_153 rfl (Holds.own 1 rfl rfl), rv_t E rfl, trivial⟩, ⟨rfl, l57, l58⟩⟩
   replace hF := hJ
   clear hJ
   refine bsplit (!r2.2) (fun hc54 => ?_) (fun hc54 => ?_)
   ·replace hF := cond_t hc54 hF
    obtain rfl := sj hF
    refine k_begin [0] (Cls u m0 ([(b9, oc 153 [vb r2.2, vs r5.1, vs r5.2.1])] :: [(b1, oc 153 [vb false, (vs ([])), (vs ([]))])] :: [])) (Cls u m0 ([(b9, oc 153 [vb r2.2, vs r5.1, vs r5.2.1])] :: [])) (by kernel_rfl) ?_
    intro w hw
    replace ok := okdrew ok hw
    clear hw
    refine k_next (cl1 (cq le_m0 ok [0, 1] rfl) (cq le_m0 ok [0] rfl)) fun hT => k_takeN 0 E rfl (by kernel_rfl) nP hT (y_loadAgg (cs := [vb r2.2, vs r5.1, vs r5.2.1]) agg_153 rfl rfl (Holds.cown 0 rfl rfl)) rfl rfl fun a E => kt 1 E rfl hT (y_move rfl) fun a E => kt 2 E rfl hT (y_not rfl) fun a E => kt 3 E rfl hT (y_move rfl) fun a E => ?_
    replace E := E.upd 71 hc54 rfl
    refine k_skip 4 false E rfl (by kernel_rfl) nP hT rfl rfl fun a E => k_skip 5 false E rfl (by kernel_rfl) nP hT rfl rfl fun a E => k_skip 6 false E rfl (by kernel_rfl) nP hT rfl rfl fun a E => kt 7 E rfl hT (y_pickT rfl rfl) fun a E => k_all [8] (by kernel_rfl) rfl (one_c ?_)
    ·refine wo rfl <| l_storeB E ok 1 rfl rfl rfl inf_153 rfl rfl ⟨rfl, rfl, rfl, trivial⟩ rfl rfl fun w ok => wn <| k_next (cl2 (by kernel_rfl) (cq le_m0 ok [0] rfl)) fun hT => kt 9 E rfl hT (y_assign rfl) fun a E => k_done (by kernel_rfl) ?_
     exact ⟨rfl, ⟨ok, E.keep [2, 3], l7, l8⟩⟩
   replace hF := cond_f hc54 hF
   obtain ⟨r55, e56, hF⟩ := bnd hF
   obtain rfl := sj hF
   refine k_begin [0] (Cls u m0 ([(b9, oc 153 [vb r2.2, vs r5.1, vs r5.2.1])] :: [(b1, oc 153 [vb false, (vs ([])), (vs ([]))])] :: [])) (Cls u m0 ([(b9, oc 153 [vb r2.2, vs r5.1, vs r5.2.1])] :: [])) (by kernel_rfl) ?_
   intro w hw
   replace ok := okdrew ok hw
   clear hw
   refine k_next (cl1 (cq le_m0 ok [0, 1] rfl) (cq le_m0 ok [0] rfl)) fun hT => k_takeN 0 E rfl (by kernel_rfl) nP hT (y_loadAgg (cs := [vb r2.2, vs r5.1, vs r5.2.1]) agg_153 rfl rfl (Holds.cown 0 rfl rfl)) rfl rfl fun a E => kt 1 E rfl hT (y_move rfl) fun a E => kt 2 E rfl hT (y_not rfl) fun a E => kt 3 E rfl hT (y_move rfl) fun a E => ?_
   replace E := E.upd 71 hc54 rfl
   refine kt 4 E rfl hT (y_loadAgg (cs := [vb r2.2, vs r5.1, vs r5.2.1]) agg_153 rfl rfl (Holds.cown 0 rfl rfl)) fun a E => k_all [5] (by kernel_rfl) rfl (one_c ?_)
   ·refine wo rfl <| lc E go_137 rfl (decimal_number_zero_w N _ (Number2.mk r2.2 r5.1 r5.2.1) ⟨rfl, l7, l8⟩ e56 hG ok) fun w ok a E => wn <| k_next (cl1 (cq le_m0 ok [0, 1] rfl) (cq le_m0 ok [0] rfl)) fun hT => kt 6 E rfl hT (y_not rfl) fun a E => kt 7 E rfl hT (y_pickF rfl rfl) fun a E => k_all [8] (by kernel_rfl) rfl (one_c ?_)
    ·refine wo rfl <| l_storeB E ok 1 rfl rfl rfl inf_153 rfl rfl ⟨rfl, rfl, rfl, trivial⟩ rfl rfl fun w ok => wn <| k_next (cl2 (by kernel_rfl) (cq le_m0 ok [0] rfl)) fun hT => kt 9 E rfl hT (y_assign rfl) fun a E => k_done (by kernel_rfl) ?_
     exact ⟨rfl, ⟨ok, E.keep [2, 3], l7, l8⟩⟩
 replace hF := cond_t hc15 hF
 replace E := E.upd 43 hc15 rfl
 refine mv E rfl fun a E => ?_
 obtain ⟨c16, e17, hF⟩ := bnd hF
 refine lv E ok (y_index Tryz.underlying9 rfl rfl e17) fun a E => lw E (y_eql rfl rfl) fun a E => pt E rfl rfl fun a E => pf E rfl rfl fun a E => aw E rfl fun a E => cf E rfl hF (fun hc18 hF => ?_) fun hc18 hF => ?_
 ·refine sg <| lv E ok (y_loadAgg (cs := [vb r2.2, vs r5.1, vs r5.2.1]) agg_153 rfl rfl (Holds.own 0 rfl rfl)) fun a E => l_storeB E ok 1 rfl rfl rfl inf_153 rfl rfl ⟨rfl, rfl, rfl, trivial⟩ rfl rfl fun w ok => aw E rfl fun a E => wp_ret ?_
  refine b_ret <| t_ret ?_
  exact fin hF ⟨m0, [vb r2.2, vs r5.1, vs r5.2.1], le_m0, ok.drop.drop, E.d, ⟨rv_c (cs := [vb r2.2, vs r5.1, vs r5.2.1]) E ok rfl agg_153 rfl (Holds.own 1 rfl rfl), rv_t E rfl, trivial⟩, ⟨rfl, l7, l8⟩⟩
 refine sg <| mv E rfl fun a E => mv E rfl fun a E => bsplit r5.2.2 (fun hc19 => ?_) (fun hc19 => ?_)
 rotate_left
 ·as_aux_lemma =>
   replace hF := cond_f hc19 hF
   replace E := E.upd 52 hc19 rfl
   refine ls E fun a E => ls E fun a E => ls E fun a E => pf E rfl rfl fun a E => mv E rfl fun a E => mv E rfl fun a E => lw E (y_slen Tryz.underlying9 rfl) fun a E => lw E (y_gtr rfl rfl) fun a E => ?_
   refine pf E rfl rfl fun a E => mv E rfl fun a E => bsplit (decide ((r5.2.1.length : Int) > 6)) (fun hc33 => ?_) (fun hc33 => ?_)
   ·replace hF := cond_t hc33 hF
    replace E := E.upd 62 hc33 rfl
    refine ls E fun a E => ls E fun a E => ls E fun a E => pt E rfl rfl fun a E => aw E rfl fun a E => c_if E rfl (fun _ => ?_) (fun h => by cases h)
    refine sg <| lv E ok (y_loadAgg (cs := [vb r2.2, vs r5.1, vs r5.2.1]) agg_153 rfl rfl (Holds.own 0 rfl rfl)) fun a E => l_storeB E ok 1 rfl rfl rfl inf_153 rfl rfl ⟨rfl, rfl, rfl, trivial⟩ rfl rfl fun w ok => aw E rfl fun a E => wp_ret ?_
    refine b_ret <| t_ret ?_
    exact fin hF ⟨m0, [vb r2.2, vs r5.1, vs r5.2.1], le_m0, ok.drop.drop, E.d, ⟨rv_c (cs := [vb r2.2, vs r5.1, vs r5.2.1]) E ok rfl agg_153 rfl (Holds.own 1 rfl rfl), rv_t E rfl, trivial⟩, ⟨rfl, l7, l8⟩⟩
   replace hF := cond_f hc33 hF
   replace E := E.upd 62 hc33 rfl
   refine mv E rfl fun a E => ?_
   obtain ⟨r34, e35, hF⟩ := bnd hF
   refine lc E go_136 rfl (decimal_digits_w N r5.2.1 l8 e35 hG ok) fun w ok a E => lw E (y_not rfl) fun a E => pf E rfl rfl fun a E => aw E rfl fun a E => cf E rfl hF (fun hc36 hF => ?_) fun hc36 hF => ?_
   ·refine sg <| lv E ok (y_loadAgg (cs := [vb r2.2, vs r5.1, vs r5.2.1]) agg_153 rfl rfl (Holds.own 0 rfl rfl)) fun a E => l_storeB E ok 1 rfl rfl rfl inf_153 rfl rfl ⟨rfl, rfl, rfl, trivial⟩ rfl rfl fun w ok => aw E rfl fun a E => wp_ret ?_
    refine b_ret <| t_ret ?_
    exact fin hF ⟨m0, [vb r2.2, vs r5.1, vs r5.2.1], le_m0, ok.drop.drop, E.d, ⟨rv_c (cs := [vb r2.2, vs r5.1, vs r5.2.1]) E ok rfl agg_153 rfl (Holds.own 1 rfl rfl), rv_t E rfl, trivial⟩, ⟨rfl, l7, l8⟩⟩
   refine wp_skip <| b_norm <| t_norm <| wp_seq ?_
   obtain ⟨o37, hJ, hF⟩ := bnd hF
   refine c_mono (Q' := fun e a w => e = .normal ∧ Ok u m0 ([(b9, oc 153 [vb r2.2, vs r5.1, vs r5.2.1])] :: [(b1, oc 153 [vb o37.2.negative, vs o37.2.whole, vs o37.2.fraction])] :: S) w ∧ Env 76 a [(2, vp b1), (3, vb o37.1)] ∧ o37.2.whole.length ≤ LIMS ∧ o37.2.fraction.length ≤ LIMS) ?_ ?_
   rotate_left
   ·clear hJ
    intro e a w hO
    obtain ⟨rfl, ok, E, l43, l44⟩ := hO
    refine t_norm <| wp_ret ?_
    exact fin hF ⟨m0, [vb o37.2.negative, vs o37.2.whole, vs o37.2.fraction], le_m0, ok.drop.drop, E.d, ⟨rv_c (cs := [vb o37.2.negative, vs o37.2.whole, vs o37.2.fraction]) E ok rfl agg_153 rfl (Holds.own 1 rfl rfl), rv_t E rfl, trivial⟩, ⟨rfl, l43, l44⟩⟩
   replace hF := hJ
   clear hJ
   refine bsplit (!r2.2) (fun hc40 => ?_) (fun hc40 => ?_)
   ·replace hF := cond_t hc40 hF
    obtain rfl := sj hF
    refine k_begin [0] (Cls u m0 ([(b9, oc 153 [vb r2.2, vs r5.1, vs r5.2.1])] :: [(b1, oc 153 [vb false, (vs ([])), (vs ([]))])] :: [])) (Cls u m0 ([(b9, oc 153 [vb r2.2, vs r5.1, vs r5.2.1])] :: [])) (by kernel_rfl) ?_
    intro w hw
    replace ok := okdrew ok hw
    clear hw
    refine k_next (cl1 (cq le_m0 ok [0, 1] rfl) (cq le_m0 ok [0] rfl)) fun hT => k_takeN 0 E rfl (by kernel_rfl) nP hT (y_loadAgg (cs := [vb r2.2, vs r5.1, vs r5.2.1]) agg_153 rfl rfl (Holds.cown 0 rfl rfl)) rfl rfl fun a E => kt 1 E rfl hT (y_move rfl) fun a E => kt 2 E rfl hT (y_not rfl) fun a E => kt 3 E rfl hT (y_move rfl) fun a E => ?_
    replace E := E.upd 71 hc40 rfl
    refine k_skip 4 false E rfl (by kernel_rfl) nP hT rfl rfl fun a E => k_skip 5 false E rfl (by kernel_rfl) nP hT rfl rfl fun a E => k_skip 6 false E rfl (by kernel_rfl) nP hT rfl rfl fun a E => kt 7 E rfl hT (y_pickT rfl rfl) fun a E => k_all [8] (by kernel_rfl) rfl (one_c ?_)
    ·refine wo rfl <| l_storeB E ok 1 rfl rfl rfl inf_153 rfl rfl ⟨rfl, rfl, rfl, trivial⟩ rfl rfl fun w ok => wn <| k_next (cl2 (by kernel_rfl) (cq le_m0 ok [0] rfl)) fun hT => kt 9 E rfl hT (y_assign rfl) fun a E => k_done (by kernel_rfl) ?_
     exact ⟨rfl, ⟨ok, E.keep [2, 3], l7, l8⟩⟩
   replace hF := cond_f hc40 hF
   obtain ⟨r41, e42, hF⟩ := bnd hF
   obtain rfl := sj hF
   refine k_begin [0] (Cls u m0 ([(b9, oc 153 [vb r2.2, vs r5.1, vs r5.2.1])] :: [(b1, oc 153 [vb false, (vs ([])), (vs ([]))])] :: [])) (Cls u m0 ([(b9, oc 153 [vb r2.2, vs r5.1, vs r5.2.1])] :: [])) (by kernel_rfl) ?_
   intro w hw
   replace ok := okdrew ok hw
   clear hw
   refine k_next (cl1 (cq le_m0 ok [0, 1] rfl) (cq le_m0 ok [0] rfl)) fun hT => k_takeN 0 E rfl (by kernel_rfl) nP hT (y_loadAgg (cs := [vb r2.2, vs r5.1, vs r5.2.1]) agg_153 rfl rfl (Holds.cown 0 rfl rfl)) rfl rfl fun a E => kt 1 E rfl hT (y_move rfl) fun a E => kt 2 E rfl hT (y_not rfl) fun a E => kt 3 E rfl hT (y_move rfl) fun a E => ?_
   replace E := E.upd 71 hc40 rfl
   refine kt 4 E rfl hT (y_loadAgg (cs := [vb r2.2, vs r5.1, vs r5.2.1]) agg_153 rfl rfl (Holds.cown 0 rfl rfl)) fun a E => k_all [5] (by kernel_rfl) rfl (one_c ?_)
   ·refine wo rfl <| lc E go_137 rfl (decimal_number_zero_w N _ (Number2.mk r2.2 r5.1 r5.2.1) ⟨rfl, l7, l8⟩ e42 hG ok) fun w ok a E => wn <| k_next (cl1 (cq le_m0 ok [0, 1] rfl) (cq le_m0 ok [0] rfl)) fun hT => kt 6 E rfl hT (y_not rfl) fun a E => kt 7 E rfl hT (y_pickF rfl rfl) fun a E => k_all [8] (by kernel_rfl) rfl (one_c ?_)
    ·refine wo rfl <| l_storeB E ok 1 rfl rfl rfl inf_153 rfl rfl ⟨rfl, rfl, rfl, trivial⟩ rfl rfl fun w ok => wn <| k_next (cl2 (by kernel_rfl) (cq le_m0 ok [0] rfl)) fun hT => kt 9 E rfl hT (y_assign rfl) fun a E => k_done (by kernel_rfl) ?_
     exact ⟨rfl, ⟨ok, E.keep [2, 3], l7, l8⟩⟩
 replace hF := cond_t hc19 hF
 replace E := E.upd 52 hc19 rfl
 refine mv E rfl fun a E => lw E (y_slen Tryz.underlying9 rfl) fun a E => lw E (y_eql rfl rfl) fun a E => pt E rfl rfl fun a E => mv E rfl fun a E => bsplit ((r5.2.1.length : Int) == 0) (fun hc20 => ?_) (fun hc20 => ?_)
 ·replace hF := cond_t hc20 hF
  replace E := E.upd 57 hc20 rfl
  refine ls E fun a E => ls E fun a E => ls E fun a E => pt E rfl rfl fun a E => mv E rfl fun a E => ls E fun a E => ls E fun a E => ls E fun a E => ?_
  refine pt E rfl rfl fun a E => aw E rfl fun a E => c_if E rfl (fun _ => ?_) (fun h => by cases h)
  refine sg <| lv E ok (y_loadAgg (cs := [vb r2.2, vs r5.1, vs r5.2.1]) agg_153 rfl rfl (Holds.own 0 rfl rfl)) fun a E => l_storeB E ok 1 rfl rfl rfl inf_153 rfl rfl ⟨rfl, rfl, rfl, trivial⟩ rfl rfl fun w ok => aw E rfl fun a E => wp_ret ?_
  refine b_ret <| t_ret ?_
  exact fin hF ⟨m0, [vb r2.2, vs r5.1, vs r5.2.1], le_m0, ok.drop.drop, E.d, ⟨rv_c (cs := [vb r2.2, vs r5.1, vs r5.2.1]) E ok rfl agg_153 rfl (Holds.own 1 rfl rfl), rv_t E rfl, trivial⟩, ⟨rfl, l7, l8⟩⟩
 replace hF := cond_f hc20 hF
 replace E := E.upd 57 hc20 rfl
 refine mv E rfl fun a E => lw E (y_slen Tryz.underlying9 rfl) fun a E => lw E (y_gtr rfl rfl) fun a E => pf E rfl rfl fun a E => mv E rfl fun a E => bsplit (decide ((r5.2.1.length : Int) > 6)) (fun hc21 => ?_) (fun hc21 => ?_)
 ·replace hF := cond_t hc21 hF
  replace E := E.upd 62 hc21 rfl
  refine ls E fun a E => ls E fun a E => ls E fun a E => pt E rfl rfl fun a E => aw E rfl fun a E => c_if E rfl (fun _ => ?_) (fun h => by cases h)
  refine sg <| lv E ok (y_loadAgg (cs := [vb r2.2, vs r5.1, vs r5.2.1]) agg_153 rfl rfl (Holds.own 0 rfl rfl)) fun a E => l_storeB E ok 1 rfl rfl rfl inf_153 rfl rfl ⟨rfl, rfl, rfl, trivial⟩ rfl rfl fun w ok => aw E rfl fun a E => wp_ret ?_
  refine b_ret <| t_ret ?_
  exact fin hF ⟨m0, [vb r2.2, vs r5.1, vs r5.2.1], le_m0, ok.drop.drop, E.d, ⟨rv_c (cs := [vb r2.2, vs r5.1, vs r5.2.1]) E ok rfl agg_153 rfl (Holds.own 1 rfl rfl), rv_t E rfl, trivial⟩, ⟨rfl, l7, l8⟩⟩
 replace hF := cond_f hc21 hF
 replace E := E.upd 62 hc21 rfl
 refine mv E rfl fun a E => ?_
 obtain ⟨r22, e23, hF⟩ := bnd hF
 refine lc E go_136 rfl (decimal_digits_w N r5.2.1 l8 e23 hG ok) fun w ok a E => lw E (y_not rfl) fun a E => pf E rfl rfl fun a E => aw E rfl fun a E => cf E rfl hF (fun hc24 hF => ?_) fun hc24 hF => ?_
 ·refine sg <| lv E ok (y_loadAgg (cs := [vb r2.2, vs r5.1, vs r5.2.1]) agg_153 rfl rfl (Holds.own 0 rfl rfl)) fun a E => l_storeB E ok 1 rfl rfl rfl inf_153 rfl rfl ⟨rfl, rfl, rfl, trivial⟩ rfl rfl fun w ok => aw E rfl fun a E => wp_ret ?_
  refine b_ret <| t_ret ?_
  exact fin hF ⟨m0, [vb r2.2, vs r5.1, vs r5.2.1], le_m0, ok.drop.drop, E.d, ⟨rv_c (cs := [vb r2.2, vs r5.1, vs r5.2.1]) E ok rfl agg_153 rfl (Holds.own 1 rfl rfl), rv_t E rfl, trivial⟩, ⟨rfl, l7, l8⟩⟩
 refine wp_skip <| b_norm <| t_norm <| wp_seq ?_
 obtain ⟨o25, hJ, hF⟩ := bnd hF
 refine c_mono (Q' := fun e a w => e = .normal ∧ Ok u m0 ([(b9, oc 153 [vb r2.2, vs r5.1, vs r5.2.1])] :: [(b1, oc 153 [vb o25.2.negative, vs o25.2.whole, vs o25.2.fraction])] :: S) w ∧ Env 76 a [(2, vp b1), (3, vb o25.1)] ∧ o25.2.whole.length ≤ LIMS ∧ o25.2.fraction.length ≤ LIMS) ?_ ?_
 rotate_left
 ·clear hJ
  intro e a w hO
  obtain ⟨rfl, ok, E, l31, l32⟩ := hO
  refine t_norm <| wp_ret ?_
  exact fin hF ⟨m0, [vb o25.2.negative, vs o25.2.whole, vs o25.2.fraction], le_m0, ok.drop.drop, E.d, ⟨rv_c (cs := [vb o25.2.negative, vs o25.2.whole, vs o25.2.fraction]) E ok rfl agg_153 rfl (Holds.own 1 rfl rfl), rv_t E rfl, trivial⟩, ⟨rfl, l31, l32⟩⟩
 replace hF := hJ
 clear hJ
 refine bsplit (!r2.2) (fun hc28 => ?_) (fun hc28 => ?_)
 ·replace hF := cond_t hc28 hF
  obtain rfl := sj hF
  refine k_begin [0] (Cls u m0 ([(b9, oc 153 [vb r2.2, vs r5.1, vs r5.2.1])] :: [(b1, oc 153 [vb false, (vs ([])), (vs ([]))])] :: [])) (Cls u m0 ([(b9, oc 153 [vb r2.2, vs r5.1, vs r5.2.1])] :: [])) (by kernel_rfl) ?_
  intro w hw
  replace ok := okdrew ok hw
  clear hw
  refine k_next (cl1 (cq le_m0 ok [0, 1] rfl) (cq le_m0 ok [0] rfl)) fun hT => k_takeN 0 E rfl (by kernel_rfl) nP hT (y_loadAgg (cs := [vb r2.2, vs r5.1, vs r5.2.1]) agg_153 rfl rfl (Holds.cown 0 rfl rfl)) rfl rfl fun a E => kt 1 E rfl hT (y_move rfl) fun a E => kt 2 E rfl hT (y_not rfl) fun a E => kt 3 E rfl hT (y_move rfl) fun a E => ?_
  replace E := E.upd 71 hc28 rfl
  refine k_skip 4 false E rfl (by kernel_rfl) nP hT rfl rfl fun a E => k_skip 5 false E rfl (by kernel_rfl) nP hT rfl rfl fun a E => k_skip 6 false E rfl (by kernel_rfl) nP hT rfl rfl fun a E => kt 7 E rfl hT (y_pickT rfl rfl) fun a E => k_all [8] (by kernel_rfl) rfl (one_c ?_)
  ·refine wo rfl <| l_storeB E ok 1 rfl rfl rfl inf_153 rfl rfl ⟨rfl, rfl, rfl, trivial⟩ rfl rfl fun w ok => wn <| k_next (cl2 (by kernel_rfl) (cq le_m0 ok [0] rfl)) fun hT => kt 9 E rfl hT (y_assign rfl) fun a E => k_done (by kernel_rfl) ?_
   exact ⟨rfl, ⟨ok, E.keep [2, 3], l7, l8⟩⟩
 replace hF := cond_f hc28 hF
 obtain ⟨r29, e30, hF⟩ := bnd hF
 obtain rfl := sj hF
 refine k_begin [0] (Cls u m0 ([(b9, oc 153 [vb r2.2, vs r5.1, vs r5.2.1])] :: [(b1, oc 153 [vb false, (vs ([])), (vs ([]))])] :: [])) (Cls u m0 ([(b9, oc 153 [vb r2.2, vs r5.1, vs r5.2.1])] :: [])) (by kernel_rfl) ?_
 intro w hw
 replace ok := okdrew ok hw
 clear hw
 refine k_next (cl1 (cq le_m0 ok [0, 1] rfl) (cq le_m0 ok [0] rfl)) fun hT => k_takeN 0 E rfl (by kernel_rfl) nP hT (y_loadAgg (cs := [vb r2.2, vs r5.1, vs r5.2.1]) agg_153 rfl rfl (Holds.cown 0 rfl rfl)) rfl rfl fun a E => kt 1 E rfl hT (y_move rfl) fun a E => kt 2 E rfl hT (y_not rfl) fun a E => kt 3 E rfl hT (y_move rfl) fun a E => ?_
 replace E := E.upd 71 hc28 rfl
 refine kt 4 E rfl hT (y_loadAgg (cs := [vb r2.2, vs r5.1, vs r5.2.1]) agg_153 rfl rfl (Holds.cown 0 rfl rfl)) fun a E => k_all [5] (by kernel_rfl) rfl (one_c ?_)
 ·refine wo rfl <| lc E go_137 rfl (decimal_number_zero_w N _ (Number2.mk r2.2 r5.1 r5.2.1) ⟨rfl, l7, l8⟩ e30 hG ok) fun w ok a E => wn <| k_next (cl1 (cq le_m0 ok [0, 1] rfl) (cq le_m0 ok [0] rfl)) fun hT => kt 6 E rfl hT (y_not rfl) fun a E => kt 7 E rfl hT (y_pickF rfl rfl) fun a E => k_all [8] (by kernel_rfl) rfl (one_c ?_)
  ·refine wo rfl <| l_storeB E ok 1 rfl rfl rfl inf_153 rfl rfl ⟨rfl, rfl, rfl, trivial⟩ rfl rfl fun w ok => wn <| k_next (cl2 (by kernel_rfl) (cq le_m0 ok [0] rfl)) fun hT => kt 9 E rfl hT (y_assign rfl) fun a E => k_done (by kernel_rfl) ?_
   exact ⟨rfl, ⟨ok, E.keep [2, 3], l7, l8⟩⟩
def decimal_Valid_R (u : World) (m0 : Mem) (S : Segs) (r : Bool) (a : Act) (w : World) : Prop :=
 Ok u m0 S w ∧ a.defers = [] ∧ RVs Tryz.prog a w [.t 2 (.bool r)]
theorem decimal_Valid_w (N : Nat) (s_0 : List UInt8) (ls_0 : s_0.length ≤ LIMS) {r : Bool} (hF : decimal_Valid N s_0 = some r) (hG : Glob u) (ok : Ok u m0 S w) :
  Calls Tryz.prog 66 [vs s_0].toArray w fun e w' => (e = .returned (.bool r) ∧ Ok u m0 S w') := by
 have hb0 := ok.base
 have le_m0 := Mem.le.refl m0
 unfold decimal_Valid at hF
 refine en (decimal_Valid_R u m0 S) r Tryz.func66 rfl rfl rfl (by rintro a w ⟨ok, hd, hrv⟩; exact c_ret2 [.t 2 (.bool r)] hd rfl hrv ⟨rfl, ok⟩) fun fin a E => sg <| aw E rfl fun a E => sg ?_
 refine mv E rfl fun a E => ?_
 obtain ⟨r1, e2, hF⟩ := bnd hF
 refine l_call E go_104 rfl (decimal_split_w N s_0 ls_0 e2 hG ok) rfl rfl ?_
 rintro _ w ⟨m3, vs4, rfl, hle, ok, h5⟩
 have le_m0 := le_m0.trans hle
 obtain ⟨rfl, l6, l7⟩ := h5
 refine ⟨_, rfl, fun a E => ?_⟩
 refine mv E rfl fun a E => lw E (y_extract rfl rfl) fun a E => lw E (y_extract rfl rfl) fun a E => l_alloc E ok zero_153 rfl rfl fun b8 a w E ok => l_storeB E ok 0 rfl rfl rfl inf_153 rfl rfl ⟨rfl, rfl, rfl, trivial⟩ rfl rfl fun w ok => aw E rfl fun a E => ?_
 refine sg <| mv E rfl fun a E => aw E rfl fun a E => wp_ret ?_
 exact fin hF ⟨(ok.drop).down hb0 le_m0, E.d, ⟨rv_t E rfl, trivial⟩⟩
theorem strings_TrimRight_w {u : World} {m0 : Mem} {S : Segs} {w : World} (N : Nat) (p0_0 : List UInt8) (lp0_0 : p0_0.length ≤ LIMS) (p1_1 : List UInt8) (lp1_1 : p1_1.length ≤ LIMS) {r : (List UInt8)} (hF : strings_TrimRight N p0_0 p1_1 = some r) (hG : Glob u) (ok : Ok u m0 S w) :
  Calls Tryz.prog 138 [vs p0_0, vs p1_1].toArray w fun e w' => (e = .returned (.string (bs r)) ∧ Ok u m0 S w') ∧ r.length ≤ LIMS := lib_TrimRight Tryz.lays162 (by kernel_rfl) p0_0 p1_1 hF lp0_0 ok
theorem strconv_Atoi_w {u : World} {m0 : Mem} {S : Segs} {w : World} (N : Nat) (p0_0 : List UInt8) (lp0_0 : p0_0.length ≤ LIMS) {r : Int × Unit} (hF : strconv_Atoi N p0_0 = some r) (hG : Glob u) (ok : Ok u m0 S w) :
  Calls Tryz.prog 161 [vs p0_0].toArray w fun e w' => (e = .returned (.tuple [(.int .i64 r.1), .nilIface].toArray) ∧ Ok u m0 (S) w') ∧ InR .i64 r.1 := lib_Atoi Tryz.lays172 p0_0 hF ok
def decimal_value_R (u : World) (m0 : Mem) (S : Segs) (r : Int) (a : Act) (w : World) : Prop :=
 Ok u m0 S w ∧ a.defers = [] ∧ RVs Tryz.prog a w [.t 2 (.int .i64 r)] ∧ InR .i64 r
theorem decimal_value_w (N : Nat) (s_0 : List UInt8) (ls_0 : s_0.length ≤ LIMS) {r : Int} (hF : decimal_value N s_0 = some r) (hG : Glob u) (ok : Ok u m0 S w) :
  Calls Tryz.prog 139 [vs s_0].toArray w fun e w' => (e = .returned (.int .i64 r) ∧ Ok u m0 S w') ∧ InR .i64 r := by
 unfold decimal_value at hF
 refine en (decimal_value_R u m0 S) r Tryz.func139 rfl rfl rfl (by rintro a w ⟨ok, hd, hrv, h0⟩; exact c_ret2 [.t 2 (.int .i64 r)] hd rfl hrv ⟨⟨rfl, ok⟩, h0⟩) fun fin a E => sg <| aw E rfl fun a E => sg ?_
 refine mv E rfl fun a E => ?_
 obtain ⟨s1, e2, hF⟩ := bnd hF
 refine lw E (y_cat rfl rfl e2) fun a E => ?_
 obtain ⟨r3, e4, hF⟩ := bnd hF
 refine l_call E go_161 rfl (strconv_Atoi_w N s1 (cat_len e2) e4 hG ok) rfl rfl ?_
 rintro _ w ⟨⟨rfl, ok⟩, r5⟩
 refine ⟨_, rfl, fun a E => ?_⟩
 refine mv E rfl fun a E => lw E (y_extract rfl rfl) fun a E => lw E (y_extract rfl rfl) fun a E => av E rfl fun a E => aw E rfl fun a E => wp_seq ?_
 refine c_region <| mv E rfl fun a E => aw E rfl fun a E => wp_ret ?_
 exact fin hF ⟨ok, E.d, ⟨rv_t E rfl, trivial⟩, r5⟩
def decimal_Operand_R (u : World) (m0 : Mem) (S : Segs) (r : Int × Int) (a : Act) (w : World) : Prop :=
 Ok u m0 S w ∧ a.defers = [] ∧ RVs Tryz.prog a w [.t 4 (.int .i64 r.1), .t 5 (.int .i64 r.2)] ∧ InR .i64 r.1 ∧ InR .i64 r.2
theorem decimal_Operand_w (N : Nat) (s_0 : List UInt8) (ls_0 : s_0.length ≤ LIMS) (operand_1 : Int) (roperand_1 : InR .i64 operand_1) {r : Int × Int} (hF : decimal_Operand N s_0 operand_1 = some r) (hG : Glob u) (ok : Ok u m0 S w) :
  Calls Tryz.prog 107 [vs s_0, vi operand_1].toArray w fun e w' => (e = .returned (.tuple [(.int .i64 r.1), (.int .i64 r.2)].toArray) ∧ Ok u m0 S w') ∧ InR .i64 r.1 ∧ InR .i64 r.2 := by
 have hb0 := ok.base
 have le_m0 := Mem.le.refl m0
 unfold decimal_Operand at hF
 refine en (decimal_Operand_R u m0 S) r Tryz.func107 rfl rfl rfl (by rintro a w ⟨ok, hd, hrv, h0, h1⟩; exact c_ret2 [.t 4 (.int .i64 r.1), .t 5 (.int .i64 r.2)] hd rfl hrv ⟨⟨rfl, ok⟩, h0, h1⟩) fun fin a E => sg <| av E rfl fun a E => aw E rfl fun a E => wp_seq ?_
 refine c_region <| mv E rfl fun a E => ?_
 obtain ⟨r1, e2, hF⟩ := bnd hF
 refine l_call E go_104 rfl (decimal_split_w N s_0 ls_0 e2 hG ok) rfl rfl ?_
 rintro _ w ⟨m3, vs4, rfl, hle, ok, h5⟩
 have le_m0 := le_m0.trans hle
 obtain ⟨rfl, l6, l7⟩ := h5
 refine ⟨_, rfl, fun a E => ?_⟩
 refine mv E rfl fun a E => lw E (y_extract rfl rfl) fun a E => lw E (y_extract rfl rfl) fun a E => l_alloc E ok zero_153 rfl rfl fun b8 a w E ok => l_storeB E ok 0 rfl rfl rfl inf_153 rfl rfl ⟨rfl, rfl, rfl, trivial⟩ rfl rfl fun w ok => aw E rfl fun a E => ?_
 refine wp_seq <| sg <| mv E rfl fun a E => lw E (y_not rfl) fun a E => wn <| cf E rfl hF (fun hc9 hF => ?_) fun hc9 hF => ?_
 ·refine sg <| av E rfl fun a E => aw E rfl fun a E => wp_ret <| t_ret ?_
  exact fin hF ⟨(ok.drop).down hb0 le_m0, E.d, ⟨rv_t E rfl, rv_t E rfl, trivial⟩, (ir 0), (ir 1)⟩
 refine wp_skip <| t_norm <| sg <| fv E fo_153_2 rfl fun a E => ld E ok one_9 0 rfl rfl rfl fun a E => ?_
 obtain ⟨r10, e11, hF⟩ := bnd hF
 refine l_call E go_138 rfl (strings_TrimRight_w N r1.1.fraction l7 ([48]) (show ([48] : List UInt8).length ≤ LIMS by decide) e11 hG ok) rfl rfl ?_
 rintro _ w ⟨⟨rfl, ok⟩, l12⟩
 refine ⟨_, rfl, fun a E => ?_⟩
 refine aw E rfl fun a E => wp_seq <| sg <| mv E rfl fun a E => wpList_nil ?_
 refine t_norm <| wp_block <| sg <| lw E (y_eql rfl rfl) fun a E => aw E rfl fun a E => ?_
 refine cf E rfl hF (fun hc13 hF => ?_) fun hc13 hF => ?_
 ·refine wp_seq <| sg <| mv E rfl fun a E => lw E (y_sneq rfl rfl) fun a E => wn <| cf E rfl hF (fun hc14 hF => ?_) fun hc14 hF => ?_
  ·refine sg <| av E rfl fun a E => aw E rfl fun a E => wp_ret <| t_ret ?_
   refine b_ret <| t_ret ?_
   exact fin hF ⟨(ok.drop).down hb0 le_m0, E.d, ⟨rv_t E rfl, rv_t E rfl, trivial⟩, (ir 0), (ir 8)⟩
  refine wp_skip <| t_norm <| sg <| fv E fo_153_1 rfl fun a E => ld E ok one_9 0 rfl rfl rfl fun a E => ?_
  obtain ⟨r15, e16, hF⟩ := bnd hF
  refine l_call E go_139 rfl (decimal_value_w N r1.1.whole l6 e16 hG ok) rfl rfl ?_
  rintro _ w ⟨⟨rfl, ok⟩, r17⟩
  refine ⟨_, rfl, fun a E => ?_⟩
  refine av E rfl fun a E => aw E rfl fun a E => wp_ret <| b_ret <| t_ret ?_
  exact fin hF ⟨(ok.drop).down hb0 le_m0, E.d, ⟨rv_t E rfl, rv_t E rfl, trivial⟩, r17, (ir 0)⟩
 refine sg <| lw E (y_eql rfl rfl) fun a E => aw E rfl fun a E => cf E rfl hF (fun hc18 hF => ?_) fun hc18 hF => ?_
 ·refine sg <| fv E fo_153_1 rfl fun a E => ld E ok one_9 0 rfl rfl rfl fun a E => ?_
  obtain ⟨r19, e20, hF⟩ := bnd hF
  refine l_call E go_139 rfl (decimal_value_w N r1.1.whole l6 e20 hG ok) rfl rfl ?_
  rintro _ w ⟨⟨rfl, ok⟩, r21⟩
  refine ⟨_, rfl, fun a E => ?_⟩
  refine av E rfl fun a E => aw E rfl fun a E => wp_ret <| b_ret <| t_ret ?_
  exact fin hF ⟨(ok.drop).down hb0 le_m0, E.d, ⟨rv_t E rfl, rv_t E rfl, trivial⟩, r21, (ir 0)⟩
 refine sg <| lw E (y_eql rfl rfl) fun a E => aw E rfl fun a E => cf E rfl hF (fun hc22 hF => ?_) fun hc22 hF => ?_
 ·refine sg <| fv E fo_153_2 rfl fun a E => ld E ok one_9 0 rfl rfl rfl fun a E => lw E (y_slen Tryz.underlying9 rfl) fun a E => av E rfl fun a E => av E rfl fun a E => wpList_nil ?_
  refine t_norm <| wp_ret <| b_ret <| t_ret ?_
  exact fin hF ⟨(ok.drop).down hb0 le_m0, E.d, ⟨rv_t E rfl, rv_t E rfl, trivial⟩, (InR.len l7), (ir 0)⟩
 refine sg <| lw E (y_eql rfl rfl) fun a E => aw E rfl fun a E => cf E rfl hF (fun hc23 hF => ?_) fun hc23 hF => ?_
 ·refine sg <| mv E rfl fun a E => lw E (y_slen Tryz.underlying9 rfl) fun a E => av E rfl fun a E => aw E rfl fun a E => ?_
  refine wp_ret <| b_ret <| t_ret ?_
  exact fin hF ⟨(ok.drop).down hb0 le_m0, E.d, ⟨rv_t E rfl, rv_t E rfl, trivial⟩, (InR.len l12), (ir 0)⟩
 refine sg <| lw E (y_eql rfl rfl) fun a E => aw E rfl fun a E => cf E rfl hF (fun hc24 hF => ?_) fun hc24 hF => ?_
 ·refine sg <| fv E fo_153_2 rfl fun a E => ld E ok one_9 0 rfl rfl rfl fun a E => ?_
  obtain ⟨r25, e26, hF⟩ := bnd hF
  refine l_call E go_139 rfl (decimal_value_w N r1.1.fraction l7 e26 hG ok) rfl rfl ?_
  rintro _ w ⟨⟨rfl, ok⟩, r27⟩
  refine ⟨_, rfl, fun a E => ?_⟩
  refine av E rfl fun a E => aw E rfl fun a E => wp_ret <| b_ret <| t_ret ?_
  exact fin hF ⟨(ok.drop).down hb0 le_m0, E.d, ⟨rv_t E rfl, rv_t E rfl, trivial⟩, r27, (ir 0)⟩
 refine sg <| lw E (y_eql rfl rfl) fun a E => aw E rfl fun a E => cf E rfl hF (fun hc28 hF => ?_) fun hc28 hF => ?_
 rotate_left
 ·refine wp_skip <| b_norm <| t_norm <| sg <| av E rfl fun a E => av E rfl fun a E => wpList_nil ?_
  refine t_norm <| wp_ret ?_
  exact fin hF ⟨(ok.drop).down hb0 le_m0, E.d, ⟨rv_t E rfl, rv_t E rfl, trivial⟩, (ir 0), (ir 1)⟩
 refine sg <| mv E rfl fun a E => ?_
 obtain ⟨r29, e30, hF⟩ := bnd hF
 refine l_call E go_139 rfl (decimal_value_w N r10 l12 e30 hG ok) rfl rfl ?_
 rintro _ w ⟨⟨rfl, ok⟩, r31⟩
 refine ⟨_, rfl, fun a E => ?_⟩
 refine av E rfl fun a E => aw E rfl fun a E => wp_ret <| b_ret <| t_ret ?_
 exact fin hF ⟨(ok.drop).down hb0 le_m0, E.d, ⟨rv_t E rfl, rv_t E rfl, trivial⟩, r31, (ir 0)⟩
def condition_in_1_R (u : World) (m0 : Mem) (S : Segs) (pb0 : Nat) (x0 : Int) (r : Bool) (a : Act) (w : World) : Prop :=
 Ok u m0 ([(pb0, oc 3 [vi x0])] :: S) w ∧ a.defers = [] ∧ RVs Tryz.prog a w [.t 3 (.bool r)]
theorem condition_in_1_w (N : Nat) (vs_0 : List Value) (s_0 : Span) (hs_0 : pSpan m0 vs_0 s_0) {pb0 : Nat} (x0 : Int) (r3 : InR .i64 x0) {r : Bool} (hF : condition_in_1 N s_0 x0 = some r) (hG : Glob u) (ok : Ok u m0 ([(pb0, oc 3 [vi x0])] :: S) w) :
  Calls Tryz.prog 141 [.agg vs_0.toArray, vp pb0].toArray w fun e w' => (e = .returned (.bool r) ∧ Ok u m0 ([(pb0, oc 3 [vi x0])] :: S) w') := by
 obtain ⟨rfl, r1, r2⟩ := hs_0
 unfold condition_in_1 at hF
 refine en (condition_in_1_R u m0 S pb0 x0) r Tryz.func141 rfl rfl rfl (by rintro a w ⟨ok, hd, hrv⟩; exact c_ret2 [.t 3 (.bool r)] hd rfl hrv ⟨rfl, ok⟩) fun fin a E => sg <| l_box E ok rfl rfl rfl fun b4 a w E ok => aw E rfl fun a E => wp_seq ?_
 refine c_region <| ld E ok one_3 1 rfl rfl rfl fun a E => fv E fo_126_0 rfl fun a E => ld E ok one_3 0 rfl rfl rfl fun a E => lw E (y_geq rfl rfl) fun a E => mv E rfl fun a E => bsplit (decide (x0 ≥ s_0.From)) (fun hc5 => ?_) (fun hc5 => ?_)
 ·replace hF := cond_t hc5 hF
  replace E := E.upd 8 hc5 rfl
  refine ld E ok one_3 1 rfl rfl rfl fun a E => fv E fo_126_1 rfl fun a E => ld E ok one_3 0 rfl rfl rfl fun a E => lw E (y_leq rfl rfl) fun a E => pt E rfl rfl fun a E => aw E rfl fun a E => ?_
  refine wp_ret ?_
  exact fin hF ⟨ok.drop, E.d, ⟨rv_t E rfl, trivial⟩⟩
 replace hF := cond_f hc5 hF
 replace E := E.upd 8 hc5 rfl
 refine ls E fun a E => ls E fun a E => ls E fun a E => ls E fun a E => pf E rfl rfl fun a E => aw E rfl fun a E => ?_
 refine wp_ret ?_
 exact fin hF ⟨ok.drop, E.d, ⟨rv_t E rfl, trivial⟩⟩
def slices_IndexFunc_api_Span_api_Span__141_R (u : World) (m0 : Mem) (S : Segs) (pb0 : Nat) (x0 : Int) (r : Int) (a : Act) (w : World) : Prop :=
 Ok u m0 ([(pb0, oc 3 [vi x0])] :: S) w ∧ a.defers = [] ∧ RVs Tryz.prog a w [.t 4 (.int .i64 r)] ∧ InR .i64 r
theorem slices_IndexFunc_api_Span_api_Span__141_w (N : Nat) (vs_0 : Value) (s_0 : List (Span)) (hs_0 : (pL 2 pSpan) m0 [vs_0] s_0) {pb0 : Nat} (x0 : Int) (r1 : InR .i64 x0) {r : Int} (hF : slices_IndexFunc_api_Span_api_Span__141 N s_0 x0 = some r) (hG : Glob u) (ok : Ok u m0 ([(pb0, oc 3 [vi x0])] :: S) w) :
  Calls Tryz.prog 162 [vs_0, Value.func (.func 141) #[] #[.pointer (some ⟨pb0, 0, none⟩)]].toArray w fun e w' => (e = .returned (.int .i64 r) ∧ Ok u m0 ([(pb0, oc 3 [vi x0])] :: S) w') ∧ InR .i64 r := by
 unfold slices_IndexFunc_api_Span_api_Span__141 at hF
 refine en (slices_IndexFunc_api_Span_api_Span__141_R u m0 S pb0 x0) r Tryz.func162 rfl rfl rfl (by rintro a w ⟨ok, hd, hrv, h0⟩; exact c_ret2 [.t 4 (.int .i64 r)] hd rfl hrv ⟨⟨rfl, ok⟩, h0⟩) fun fin a E => sg <| aw E rfl fun a E => wp_seq <| wp_seq ?_
 refine c_region <| mv E rfl fun a E => lv E ok (y_lenL sl_67 hs_0 rfl) fun a E => mv E rfl fun a E => wn <| wp_block ?_
 obtain ⟨o3, hL, hF⟩ := bnd hF
 refine c_loop _ (fun (s : Int) a w => Ok u m0 ([(pb0, oc 3 [vi x0])] :: S) w ∧ Env 19 a [(0, vs_0), (1, (Value.func (.func 141) #[] #[.pointer (some ⟨pb0, 0, none⟩)])), (7, (vi (s_0.length : Int))), (8, vi s)] ∧ InR .i64 s) (fun (b : (Unit ⊕ Int)) e a w => (Sum.elim (fun b22 => e = (.exit 0) ∧ Ok u m0 ([(pb0, oc 3 [vi x0])] :: S) w ∧ Env 19 a []) (fun b23 => e = .ret ∧ slices_IndexFunc_api_Span_api_Span__141_R u m0 S pb0 x0 b23 a w)) b) ?_ ?_ N _ a w hL ⟨ok, E.keep [0, 1, 7, 8], (ir 0)⟩
 rotate_left
 ·intro e a w _ hO
  rcases o3 with o3 | o3
  rotate_left
  ·replace hF := elim_r hF
   obtain ⟨rfl, hret⟩ := hO
   refine b_ret <| t_ret ?_
   exact fin hF hret
  replace hF := elim_l hF
  obtain ⟨rfl, ok, E⟩ := hO
  refine b_hit <| t_norm <| sg <| aw E rfl fun a E => wp_ret ?_
  exact fin hF ⟨ok, E.d, ⟨rv_t E rfl, trivial⟩, (ir (-1))⟩
 rintro x_5 a w r ⟨ok, E, r6⟩ hF
 replace hF : slices_IndexFunc_api_Span_api_Span__141_b1 N s_0 x0 x_5 = some r := hF
 unfold slices_IndexFunc_api_Span_api_Span__141_b1 at hF
 refine sg <| lw E (y_lss rfl rfl) fun a E => wn <| wp_seq <| cf E rfl hF (fun hc7 hF => ?_) fun hc7 hF => ?_
 rotate_left
 ·refine wp_exit <| t_exit ?_
  obtain rfl := sj hF
  exact so (sl ⟨rfl, ⟨ok, E.keep []⟩⟩)
 refine wp_skip <| t_norm <| wp_seq <| wp_block <| sg <| mv E rfl fun a E => av E rfl fun a E => ?_
 refine wn <| sg <| mv E rfl fun a E => mv E rfl fun a E => mv E rfl fun a E => ?_
 obtain ⟨x8, e9, hF⟩ := bnd hF
 obtain ⟨b10, o11, es12, hl13, rr14, at15, yy16⟩ := idxAt sl_67 hs_0 e9 (P := Tryz.prog) (X := .tmp 12) (I := .tmp 13) (kd := .i64) (ev_of E rfl) (ev_of E rfl)
 obtain ⟨rfl, r17, r18⟩ := rr14
 refine lv E ok (yy16 _ _) fun a E => lv E ok (y_loadAgg (cs := [vi x8.From, vi x8.To]) agg_126 rfl rfl (Holds.ro at15)) fun a E => ?_
 obtain ⟨r19, e20, hF⟩ := bnd hF
 refine l_callc E rfl go_141 rfl (condition_in_1_w N _ x8 ⟨rfl, r17, r18⟩ x0 r1 e20 hG ok) rfl rfl ?_
 rintro _ w ⟨rfl, ok⟩
 refine ⟨_, rfl, fun a E => ?_⟩
 refine wn <| cf E rfl hF (fun hc21 hF => ?_) fun hc21 hF => ?_
 rotate_left
 ·refine wp_skip <| b_norm <| t_norm <| c_region <| lw E (y_add rfl rfl (InR.inc r6 (pL_InR hs_0) hc7)) fun a E => mv E rfl fun a E => wpList_nil ?_
  obtain rfl := sj hF
  exact step_n ⟨ok, E.keep [0, 1, 7, 8], (InR.inc r6 (pL_InR hs_0) hc7)⟩
 refine sg <| mv E rfl fun a E => aw E rfl fun a E => wp_ret <| b_ret ?_
 refine t_ret ?_
 obtain rfl := sj hF
 exact so (sr ⟨rfl, ⟨ok, E.d, ⟨rv_t E rfl, trivial⟩, r6⟩⟩)
def slices_ContainsFunc_api_Span_api_Span__141_R (u : World) (m0 : Mem) (S : Segs) (pb0 : Nat) (x0 : Int) (r : Bool) (a : Act) (w : World) : Prop :=
 Ok u m0 ([(pb0, oc 3 [vi x0])] :: S) w ∧ a.defers = [] ∧ RVs Tryz.prog a w [.t 4 (.bool r)]
theorem slices_ContainsFunc_api_Span_api_Span__141_w (N : Nat) (vs_0 : Value) (s_0 : List (Span)) (hs_0 : (pL 2 pSpan) m0 [vs_0] s_0) {pb0 : Nat} (x0 : Int) (r1 : InR .i64 x0) {r : Bool} (hF : slices_ContainsFunc_api_Span_api_Span__141 N s_0 x0 = some r) (hG : Glob u) (ok : Ok u m0 ([(pb0, oc 3 [vi x0])] :: S) w) :
  Calls Tryz.prog 140 [vs_0, Value.func (.func 141) #[] #[.pointer (some ⟨pb0, 0, none⟩)]].toArray w fun e w' => (e = .returned (.bool r) ∧ Ok u m0 ([(pb0, oc 3 [vi x0])] :: S) w') := by
 unfold slices_ContainsFunc_api_Span_api_Span__141 at hF
 refine en (slices_ContainsFunc_api_Span_api_Span__141_R u m0 S pb0 x0) r Tryz.func140 rfl rfl rfl (by rintro a w ⟨ok, hd, hrv⟩; exact c_ret2 [.t 4 (.bool r)] hd rfl hrv ⟨rfl, ok⟩) fun fin a E => sg <| aw E rfl fun a E => sg ?_
 refine mv E rfl fun a E => mv E rfl fun a E => ?_
 obtain ⟨r2, e3, hF⟩ := bnd hF
 refine l_call E go_162 rfl (slices_IndexFunc_api_Span_api_Span__141_w N _ s_0 hs_0 x0 r1 e3 hG ok) rfl rfl ?_
 rintro _ w ⟨⟨rfl, ok⟩, r4⟩
 refine ⟨_, rfl, fun a E => ?_⟩
 refine lw E (y_geq rfl rfl) fun a E => aw E rfl fun a E => wp_ret ?_
 exact fin hF ⟨ok, E.d, ⟨rv_t E rfl, trivial⟩⟩
def condition_in_R (u : World) (m0 : Mem) (S : Segs) (r : Bool) (a : Act) (w : World) : Prop :=
 Ok u m0 S w ∧ a.defers = [] ∧ RVs Tryz.prog a w [.t 4 (.bool r)]
theorem condition_in_w (N : Nat) (vl_0 : Value) (l_0 : List (Span)) (hl_0 : (pL 2 pSpan) m0 [vl_0] l_0) (n_1 : Int) (rn_1 : InR .i64 n_1) {r : Bool} (hF : condition_in N l_0 n_1 = some r) (hG : Glob u) (ok : Ok u m0 S w) :
  Calls Tryz.prog 108 [vl_0, vi n_1].toArray w fun e w' => (e = .returned (.bool r) ∧ Ok u m0 S w') := by
 unfold condition_in at hF
 refine en (condition_in_R u m0 S) r Tryz.func108 rfl rfl rfl (by rintro a w ⟨ok, hd, hrv⟩; exact c_ret2 [.t 4 (.bool r)] hd rfl hrv ⟨rfl, ok⟩) fun fin a E => sg <| l_box E ok rfl rfl rfl fun b1 a w E ok => aw E rfl fun a E => wp_seq ?_
 refine c_region <| mv E rfl fun a E => lv E ok (y_makeFunc (caps := [.tmp 3]) rfl) fun a E => ?_
 obtain ⟨r2, e3, hF⟩ := bnd hF
 refine lc E go_140 rfl (slices_ContainsFunc_api_Span_api_Span__141_w N _ l_0 hl_0 n_1 rn_1 e3 hG ok) fun w ok a E => aw E rfl fun a E => wp_ret ?_
 exact fin hF ⟨ok.drop, E.d, ⟨rv_t E rfl, trivial⟩⟩
def condition_holds_R (u : World) (m0 : Mem) (S : Segs) (r : Bool) (a : Act) (w : World) : Prop :=
 Ok u m0 S w ∧ a.defers = [] ∧ RVs Tryz.prog a w [.t 4 (.bool r)]
theorem condition_holds_w (N : Nat) (vr_0 : List Value) (r_0 : Relation) (hr_0 : pRelation m0 vr_0 r_0) (number_1 : List UInt8) (lnumber_1 : number_1.length ≤ LIMS) {r : Bool} (hF : condition_holds N r_0 number_1 = some r) (hG : Glob u) (ok : Ok u m0 S w) :
  Calls Tryz.prog 71 [.agg vr_0.toArray, vs number_1].toArray w fun e w' => (e = .returned (.bool r) ∧ Ok u m0 S w') := by
 obtain ⟨c3, rfl, r1, r2, h4⟩ := hr_0
 unfold condition_holds at hF
 refine en (condition_holds_R u m0 S) r Tryz.func71 rfl rfl rfl (by rintro a w ⟨ok, hd, hrv⟩; exact c_ret2 [.t 4 (.bool r)] hd rfl hrv ⟨rfl, ok⟩) fun fin a E => sg <| l_box E ok rfl rfl rfl fun b5 a w E ok => aw E rfl fun a E => wp_seq ?_
 refine c_region <| mv E rfl fun a E => fv E fo_69_0 rfl fun a E => ld E ok one_3 0 rfl rfl rfl fun a E => ?_
 obtain ⟨r6, e7, hF⟩ := bnd hF
 refine l_call E go_107 rfl (decimal_Operand_w N number_1 lnumber_1 r_0.Operand r1 e7 hG ok) rfl rfl ?_
 rintro _ w ⟨⟨rfl, ok⟩, r8, r9⟩
 refine ⟨_, rfl, fun a E => ?_⟩
 refine mv E rfl fun a E => lw E (y_extract rfl rfl) fun a E => lw E (y_extract rfl rfl) fun a E => av E rfl fun a E => aw E rfl fun a E => wp_seq ?_
 refine sg <| mv E rfl fun a E => lw E (y_neq rfl rfl) fun a E => wn <| cf E rfl hF (fun hc10 hF => ?_) fun hc10 hF => ?_
 ·refine sg <| fv E fo_69_2 rfl fun a E => ld E ok one_4 0 rfl rfl rfl fun a E => aw E rfl fun a E => wp_ret ?_
  refine t_ret ?_
  exact fin hF ⟨ok.drop, E.d, ⟨rv_t E rfl, trivial⟩⟩
 refine wp_skip <| t_norm <| wp_seq <| sg <| fv E fo_69_1 rfl fun a E => ld E ok one_3 0 rfl rfl rfl fun a E => lw E (y_neq rfl rfl) fun a E => ?_
 refine wn ?_
 obtain ⟨o11, hJ, hF⟩ := bnd hF
 refine c_mono (Q' := fun e a w => e = .normal ∧ Ok u m0 ([(b5, oc 69 [vi r_0.Operand, vi r_0.Mod, vb r_0.Not, c3])] :: S) w ∧ Env 32 a [(2, vp b5), (5, vi o11)] ∧ InR .i64 o11) ?_ ?_
 ·replace hF := hJ
  clear hJ
  refine cf E rfl hF (fun hc13 hF => ?_) fun hc13 hF => ?_
  rotate_left
  ·refine wp_skip ?_
   obtain rfl := sj hF
   exact ⟨rfl, ⟨ok, E.keep [2, 5], r8⟩⟩
  refine c_region <| mv E rfl fun a E => fv E fo_69_1 rfl fun a E => ld E ok one_3 0 rfl rfl rfl fun a E => ?_
  obtain ⟨q14, e15, hF⟩ := bnd hF
  refine lw E (y_rm rfl rfl e15) fun a E => av E rfl fun a E => wpList_nil ?_
  obtain rfl := sj hF
  exact ⟨rfl, ⟨ok, E.keep [2, 5], (rm_InR e15 r8)⟩⟩
 clear hJ
 intro e a w hO
 obtain ⟨rfl, ok, E, r16⟩ := hO
 refine t_norm <| wp_seq <| c_draw (by kernel_rfl) (by kernel_rfl) ok <| qv E (y_fieldAddr fo_69_3 rfl) fun a E => qv E (y_load one_67 rfl (Holds.own 0 rfl rfl)) fun a E => qv E (y_move rfl) fun a E => ?_
 obtain ⟨r17, e18, hF⟩ := bnd hF
 refine q_call E go_108 rfl (fun w ok => (condition_in_w N _ r_0.Spans h4 o11 r16 e18 hG ok).mono (fun _ _ h => h)) rfl rfl fun a E => qv E (y_fieldAddr fo_69_2 rfl) fun a E => qv E (y_load one_4 rfl (Holds.own 0 rfl rfl)) fun a E => qv E (y_bneq Tryz.underlying4 rfl rfl) fun a E => qv E (y_assign rfl) fun a E => wpQuiet_nil ?_
 intro w ok
 refine t_norm <| wp_ret ?_
 exact fin hF ⟨ok.drop, E.d, ⟨rv_t E rfl, trivial⟩⟩
def condition_Holds_1_1_R (u : World) (m0 : Mem) (S : Segs) (pb0 : Nat) (x0 : List UInt8) (r : Bool) (a : Act) (w : World) : Prop :=
 Ok u m0 ([(pb0, oc 9 [vs x0])] :: S) w ∧ a.defers = [] ∧ RVs Tryz.prog a w [.t 3 (.bool r)]
theorem condition_Holds_1_1_w (N : Nat) (vr_0 : List Value) (r_0 : Relation) (hr_0 : pRelation m0 vr_0 r_0) {pb0 : Nat} (x0 : List UInt8) (l5 : x0.length ≤ LIMS) {r : Bool} (hF : condition_Holds_1_1 N r_0 x0 = some r) (hG : Glob u) (ok : Ok u m0 ([(pb0, oc 9 [vs x0])] :: S) w) :
  Calls Tryz.prog 70 [.agg vr_0.toArray, vp pb0].toArray w fun e w' => (e = .returned (.bool r) ∧ Ok u m0 ([(pb0, oc 9 [vs x0])] :: S) w') := by
 obtain ⟨c3, rfl, r1, r2, h4⟩ := hr_0
 unfold condition_Holds_1_1 at hF
 refine en (condition_Holds_1_1_R u m0 S pb0 x0) r Tryz.func70 rfl rfl rfl (by rintro a w ⟨ok, hd, hrv⟩; exact c_ret2 [.t 3 (.bool r)] hd rfl hrv ⟨rfl, ok⟩) fun fin a E => sg <| l_box E ok rfl rfl rfl fun b6 a w E ok => aw E rfl fun a E => wp_seq ?_
 refine c_region <| lv E ok (y_loadAgg (cs := [vi r_0.Operand, vi r_0.Mod, vb r_0.Not, c3]) agg_69 rfl rfl (Holds.own 0 rfl rfl)) fun a E => ld E ok one_9 1 rfl rfl rfl fun a E => ?_
 obtain ⟨r7, e8, hF⟩ := bnd hF
 refine lc E go_71 rfl (condition_holds_w N _ r_0 ⟨_, rfl, r1, r2, h4⟩ x0 l5 e8 hG ok) fun w ok a E => lw E (y_not rfl) fun a E => aw E rfl fun a E => wp_ret ?_
 exact fin hF ⟨ok.drop, E.d, ⟨rv_t E rfl, trivial⟩⟩
def slices_IndexFunc_api_Relation_api_Relation__70_R (u : World) (m0 : Mem) (S : Segs) (pb0 : Nat) (x0 : List UInt8) (r : Int) (a : Act) (w : World) : Prop :=
 Ok u m0 ([(pb0, oc 9 [vs x0])] :: S) w ∧ a.defers = [] ∧ RVs Tryz.prog a w [.t 4 (.int .i64 r)] ∧ InR .i64 r
theorem slices_IndexFunc_api_Relation_api_Relation__70_w (N : Nat) (vs_0 : Value) (s_0 : List (Relation)) (hs_0 : (pL 4 pRelation) m0 [vs_0] s_0) {pb0 : Nat} (x0 : List UInt8) (l1 : x0.length ≤ LIMS) {r : Int} (hF : slices_IndexFunc_api_Relation_api_Relation__70 N s_0 x0 = some r) (hG : Glob u) (ok : Ok u m0 ([(pb0, oc 9 [vs x0])] :: S) w) :
  Calls Tryz.prog 106 [vs_0, Value.func (.func 70) #[] #[.pointer (some ⟨pb0, 0, none⟩)]].toArray w fun e w' => (e = .returned (.int .i64 r) ∧ Ok u m0 ([(pb0, oc 9 [vs x0])] :: S) w') ∧ InR .i64 r := by
 unfold slices_IndexFunc_api_Relation_api_Relation__70 at hF
 refine en (slices_IndexFunc_api_Relation_api_Relation__70_R u m0 S pb0 x0) r Tryz.func106 rfl rfl rfl (by rintro a w ⟨ok, hd, hrv, h0⟩; exact c_ret2 [.t 4 (.int .i64 r)] hd rfl hrv ⟨⟨rfl, ok⟩, h0⟩) fun fin a E => sg <| aw E rfl fun a E => wp_seq <| wp_seq ?_
 refine c_region <| mv E rfl fun a E => lv E ok (y_lenL sl_66 hs_0 rfl) fun a E => mv E rfl fun a E => wn <| wp_block ?_
 obtain ⟨o3, hL, hF⟩ := bnd hF
 refine c_loop _ (fun (s : Int) a w => Ok u m0 ([(pb0, oc 9 [vs x0])] :: S) w ∧ Env 19 a [(0, vs_0), (1, (Value.func (.func 70) #[] #[.pointer (some ⟨pb0, 0, none⟩)])), (7, (vi (s_0.length : Int))), (8, vi s)] ∧ InR .i64 s) (fun (b : (Unit ⊕ Int)) e a w => (Sum.elim (fun b24 => e = (.exit 0) ∧ Ok u m0 ([(pb0, oc 9 [vs x0])] :: S) w ∧ Env 19 a []) (fun b25 => e = .ret ∧ slices_IndexFunc_api_Relation_api_Relation__70_R u m0 S pb0 x0 b25 a w)) b) ?_ ?_ N _ a w hL ⟨ok, E.keep [0, 1, 7, 8], (ir 0)⟩
 rotate_left
 ·intro e a w _ hO
  rcases o3 with o3 | o3
  rotate_left
  ·replace hF := elim_r hF
   obtain ⟨rfl, hret⟩ := hO
   refine b_ret <| t_ret ?_
   exact fin hF hret
  replace hF := elim_l hF
  obtain ⟨rfl, ok, E⟩ := hO
  refine b_hit <| t_norm <| sg <| aw E rfl fun a E => wp_ret ?_
  exact fin hF ⟨ok, E.d, ⟨rv_t E rfl, trivial⟩, (ir (-1))⟩
 rintro x_5 a w r ⟨ok, E, r6⟩ hF
 replace hF : slices_IndexFunc_api_Relation_api_Relation__70_b1 N s_0 x0 x_5 = some r := hF
 unfold slices_IndexFunc_api_Relation_api_Relation__70_b1 at hF
 refine sg <| lw E (y_lss rfl rfl) fun a E => wn <| wp_seq <| cf E rfl hF (fun hc7 hF => ?_) fun hc7 hF => ?_
 rotate_left
 ·refine wp_exit <| t_exit ?_
  obtain rfl := sj hF
  exact so (sl ⟨rfl, ⟨ok, E.keep []⟩⟩)
 refine wp_skip <| t_norm <| wp_seq <| wp_block <| sg <| mv E rfl fun a E => av E rfl fun a E => ?_
 refine wn <| sg <| mv E rfl fun a E => mv E rfl fun a E => mv E rfl fun a E => ?_
 obtain ⟨x8, e9, hF⟩ := bnd hF
 obtain ⟨b10, o11, es12, hl13, rr14, at15, yy16⟩ := idxAt sl_66 hs_0 e9 (P := Tryz.prog) (X := .tmp 12) (I := .tmp 13) (kd := .i64) (ev_of E rfl) (ev_of E rfl)
 obtain ⟨c19, rfl, r17, r18, h20⟩ := rr14
 refine lv E ok (yy16 _ _) fun a E => lv E ok (y_loadAgg (cs := [vi x8.Operand, vi x8.Mod, vb x8.Not, c19]) agg_69 rfl rfl (Holds.ro at15)) fun a E => ?_
 obtain ⟨r21, e22, hF⟩ := bnd hF
 refine l_callc E rfl go_70 rfl (condition_Holds_1_1_w N _ x8 ⟨_, rfl, r17, r18, h20⟩ x0 l1 e22 hG ok) rfl rfl ?_
 rintro _ w ⟨rfl, ok⟩
 refine ⟨_, rfl, fun a E => ?_⟩
 refine wn <| cf E rfl hF (fun hc23 hF => ?_) fun hc23 hF => ?_
 rotate_left
 ·refine wp_skip <| b_norm <| t_norm <| c_region <| lw E (y_add rfl rfl (InR.inc r6 (pL_InR hs_0) hc7)) fun a E => mv E rfl fun a E => wpList_nil ?_
  obtain rfl := sj hF
  exact step_n ⟨ok, E.keep [0, 1, 7, 8], (InR.inc r6 (pL_InR hs_0) hc7)⟩
 refine sg <| mv E rfl fun a E => aw E rfl fun a E => wp_ret <| b_ret ?_
 refine t_ret ?_
 obtain rfl := sj hF
 exact so (sr ⟨rfl, ⟨ok, E.d, ⟨rv_t E rfl, trivial⟩, r6⟩⟩)
def slices_ContainsFunc_api_Relation_api_Relation__70_R (u : World) (m0 : Mem) (S : Segs) (pb0 : Nat) (x0 : List UInt8) (r : Bool) (a : Act) (w : World) : Prop :=
 Ok u m0 ([(pb0, oc 9 [vs x0])] :: S) w ∧ a.defers = [] ∧ RVs Tryz.prog a w [.t 4 (.bool r)]
theorem slices_ContainsFunc_api_Relation_api_Relation__70_w (N : Nat) (vs_0 : Value) (s_0 : List (Relation)) (hs_0 : (pL 4 pRelation) m0 [vs_0] s_0) {pb0 : Nat} (x0 : List UInt8) (l1 : x0.length ≤ LIMS) {r : Bool} (hF : slices_ContainsFunc_api_Relation_api_Relation__70 N s_0 x0 = some r) (hG : Glob u) (ok : Ok u m0 ([(pb0, oc 9 [vs x0])] :: S) w) :
  Calls Tryz.prog 69 [vs_0, Value.func (.func 70) #[] #[.pointer (some ⟨pb0, 0, none⟩)]].toArray w fun e w' => (e = .returned (.bool r) ∧ Ok u m0 ([(pb0, oc 9 [vs x0])] :: S) w') := by
 unfold slices_ContainsFunc_api_Relation_api_Relation__70 at hF
 refine en (slices_ContainsFunc_api_Relation_api_Relation__70_R u m0 S pb0 x0) r Tryz.func69 rfl rfl rfl (by rintro a w ⟨ok, hd, hrv⟩; exact c_ret2 [.t 4 (.bool r)] hd rfl hrv ⟨rfl, ok⟩) fun fin a E => sg <| aw E rfl fun a E => sg ?_
 refine mv E rfl fun a E => mv E rfl fun a E => ?_
 obtain ⟨r2, e3, hF⟩ := bnd hF
 refine l_call E go_106 rfl (slices_IndexFunc_api_Relation_api_Relation__70_w N _ s_0 hs_0 x0 l1 e3 hG ok) rfl rfl ?_
 rintro _ w ⟨⟨rfl, ok⟩, r4⟩
 refine ⟨_, rfl, fun a E => ?_⟩
 refine lw E (y_geq rfl rfl) fun a E => aw E rfl fun a E => wp_ret ?_
 exact fin hF ⟨ok, E.d, ⟨rv_t E rfl, trivial⟩⟩
def condition_Holds_1_R (u : World) (m0 : Mem) (S : Segs) (pb0 : Nat) (x0 : List UInt8) (r : Bool) (a : Act) (w : World) : Prop :=
 Ok u m0 ([(pb0, oc 9 [vs x0])] :: S) w ∧ a.defers = [] ∧ RVs Tryz.prog a w [.t 3 (.bool r)]
theorem condition_Holds_1_w (N : Nat) (vlist_0 : Value) (list_0 : List (Relation)) (hlist_0 : (pL 4 pRelation) m0 [vlist_0] list_0) {pb0 : Nat} (x0 : List UInt8) (l1 : x0.length ≤ LIMS) {r : Bool} (hF : condition_Holds_1 N list_0 x0 = some r) (hG : Glob u) (ok : Ok u m0 ([(pb0, oc 9 [vs x0])] :: S) w) :
  Calls Tryz.prog 68 [vlist_0, vp pb0].toArray w fun e w' => (e = .returned (.bool r) ∧ Ok u m0 ([(pb0, oc 9 [vs x0])] :: S) w') := by
 unfold condition_Holds_1 at hF
 refine en (condition_Holds_1_R u m0 S pb0 x0) r Tryz.func68 rfl rfl rfl (by rintro a w ⟨ok, hd, hrv⟩; exact c_ret2 [.t 3 (.bool r)] hd rfl hrv ⟨rfl, ok⟩) fun fin a E => sg <| aw E rfl fun a E => sg ?_
 refine mv E rfl fun a E => lv E ok (y_makeFunc (caps := [.tmp 1]) rfl) fun a E => ?_
 obtain ⟨r2, e3, hF⟩ := bnd hF
 refine lc E go_69 rfl (slices_ContainsFunc_api_Relation_api_Relation__70_w N _ list_0 hlist_0 x0 l1 e3 hG ok) fun w ok a E => lw E (y_not rfl) fun a E => aw E rfl fun a E => wp_ret ?_
 exact fin hF ⟨ok, E.d, ⟨rv_t E rfl, trivial⟩⟩
def slices_IndexFunc_api_Cond_api_Relation__68_R (u : World) (m0 : Mem) (S : Segs) (pb0 : Nat) (x0 : List UInt8) (r : Int) (a : Act) (w : World) : Prop :=
 Ok u m0 ([(pb0, oc 9 [vs x0])] :: S) w ∧ a.defers = [] ∧ RVs Tryz.prog a w [.t 4 (.int .i64 r)] ∧ InR .i64 r
theorem slices_IndexFunc_api_Cond_api_Relation__68_w (N : Nat) (vs_0 : Value) (s_0 : List (List (Relation))) (hs_0 : (pL 1 (pL 4 pRelation)) m0 [vs_0] s_0) {pb0 : Nat} (x0 : List UInt8) (l1 : x0.length ≤ LIMS) {r : Int} (hF : slices_IndexFunc_api_Cond_api_Relation__68 N s_0 x0 = some r) (hG : Glob u) (ok : Ok u m0 ([(pb0, oc 9 [vs x0])] :: S) w) :
  Calls Tryz.prog 105 [vs_0, Value.func (.func 68) #[] #[.pointer (some ⟨pb0, 0, none⟩)]].toArray w fun e w' => (e = .returned (.int .i64 r) ∧ Ok u m0 ([(pb0, oc 9 [vs x0])] :: S) w') ∧ InR .i64 r := by
 unfold slices_IndexFunc_api_Cond_api_Relation__68 at hF
 refine en (slices_IndexFunc_api_Cond_api_Relation__68_R u m0 S pb0 x0) r Tryz.func105 rfl rfl rfl (by rintro a w ⟨ok, hd, hrv, h0⟩; exact c_ret2 [.t 4 (.int .i64 r)] hd rfl hrv ⟨⟨rfl, ok⟩, h0⟩) fun fin a E => sg <| aw E rfl fun a E => wp_seq <| wp_seq ?_
 refine c_region <| mv E rfl fun a E => lv E ok (y_lenL sl_23 hs_0 rfl) fun a E => mv E rfl fun a E => wn <| wp_block ?_
 obtain ⟨o3, hL, hF⟩ := bnd hF
 refine c_loop _ (fun (s : Int) a w => Ok u m0 ([(pb0, oc 9 [vs x0])] :: S) w ∧ Env 19 a [(0, vs_0), (1, (Value.func (.func 68) #[] #[.pointer (some ⟨pb0, 0, none⟩)])), (7, (vi (s_0.length : Int))), (8, vi s)] ∧ InR .i64 s) (fun (b : (Unit ⊕ Int)) e a w => (Sum.elim (fun b22 => e = (.exit 0) ∧ Ok u m0 ([(pb0, oc 9 [vs x0])] :: S) w ∧ Env 19 a []) (fun b23 => e = .ret ∧ slices_IndexFunc_api_Cond_api_Relation__68_R u m0 S pb0 x0 b23 a w)) b) ?_ ?_ N _ a w hL ⟨ok, E.keep [0, 1, 7, 8], (ir 0)⟩
 rotate_left
 ·intro e a w _ hO
  rcases o3 with o3 | o3
  rotate_left
  ·replace hF := elim_r hF
   obtain ⟨rfl, hret⟩ := hO
   refine b_ret <| t_ret ?_
   exact fin hF hret
  replace hF := elim_l hF
  obtain ⟨rfl, ok, E⟩ := hO
  refine b_hit <| t_norm <| sg <| aw E rfl fun a E => wp_ret ?_
  exact fin hF ⟨ok, E.d, ⟨rv_t E rfl, trivial⟩, (ir (-1))⟩
 rintro x_5 a w r ⟨ok, E, r6⟩ hF
 replace hF : slices_IndexFunc_api_Cond_api_Relation__68_b1 N s_0 x0 x_5 = some r := hF
 unfold slices_IndexFunc_api_Cond_api_Relation__68_b1 at hF
 refine sg <| lw E (y_lss rfl rfl) fun a E => wn <| wp_seq <| cf E rfl hF (fun hc7 hF => ?_) fun hc7 hF => ?_
 rotate_left
 ·refine wp_exit <| t_exit ?_
  obtain rfl := sj hF
  exact so (sl ⟨rfl, ⟨ok, E.keep []⟩⟩)
 refine wp_skip <| t_norm <| wp_seq <| wp_block <| sg <| mv E rfl fun a E => av E rfl fun a E => ?_
 refine wn <| sg <| mv E rfl fun a E => mv E rfl fun a E => mv E rfl fun a E => ?_
 obtain ⟨x8, e9, hF⟩ := bnd hF
 obtain ⟨b10, o11, es12, hl13, rr14, at15, yy16⟩ := idxAt sl_23 hs_0 e9 (P := Tryz.prog) (X := .tmp 12) (I := .tmp 13) (kd := .i64) (ev_of E rfl) (ev_of E rfl)
 obtain ⟨c17, rfl, h18⟩ := pL_cell rr14
 refine lv E ok (yy16 _ _) fun a E => lv E ok (y_load one_66 rfl (Holds.ro at15)) fun a E => ?_
 obtain ⟨r19, e20, hF⟩ := bnd hF
 refine l_callc E rfl go_68 rfl (condition_Holds_1_w N _ x8 h18 x0 l1 e20 hG ok) rfl rfl ?_
 rintro _ w ⟨rfl, ok⟩
 refine ⟨_, rfl, fun a E => ?_⟩
 refine wn <| cf E rfl hF (fun hc21 hF => ?_) fun hc21 hF => ?_
 rotate_left
 ·refine wp_skip <| b_norm <| t_norm <| c_region <| lw E (y_add rfl rfl (InR.inc r6 (pL_InR hs_0) hc7)) fun a E => mv E rfl fun a E => wpList_nil ?_
  obtain rfl := sj hF
  exact step_n ⟨ok, E.keep [0, 1, 7, 8], (InR.inc r6 (pL_InR hs_0) hc7)⟩
 refine sg <| mv E rfl fun a E => aw E rfl fun a E => wp_ret <| b_ret ?_
 refine t_ret ?_
 obtain rfl := sj hF
 exact so (sr ⟨rfl, ⟨ok, E.d, ⟨rv_t E rfl, trivial⟩, r6⟩⟩)
def slices_ContainsFunc_api_Cond_api_Relation__68_R (u : World) (m0 : Mem) (S : Segs) (pb0 : Nat) (x0 : List UInt8) (r : Bool) (a : Act) (w : World) : Prop :=
 Ok u m0 ([(pb0, oc 9 [vs x0])] :: S) w ∧ a.defers = [] ∧ RVs Tryz.prog a w [.t 4 (.bool r)]
theorem slices_ContainsFunc_api_Cond_api_Relation__68_w (N : Nat) (vs_0 : Value) (s_0 : List (List (Relation))) (hs_0 : (pL 1 (pL 4 pRelation)) m0 [vs_0] s_0) {pb0 : Nat} (x0 : List UInt8) (l1 : x0.length ≤ LIMS) {r : Bool} (hF : slices_ContainsFunc_api_Cond_api_Relation__68 N s_0 x0 = some r) (hG : Glob u) (ok : Ok u m0 ([(pb0, oc 9 [vs x0])] :: S) w) :
  Calls Tryz.prog 67 [vs_0, Value.func (.func 68) #[] #[.pointer (some ⟨pb0, 0, none⟩)]].toArray w fun e w' => (e = .returned (.bool r) ∧ Ok u m0 ([(pb0, oc 9 [vs x0])] :: S) w') := by
 unfold slices_ContainsFunc_api_Cond_api_Relation__68 at hF
 refine en (slices_ContainsFunc_api_Cond_api_Relation__68_R u m0 S pb0 x0) r Tryz.func67 rfl rfl rfl (by rintro a w ⟨ok, hd, hrv⟩; exact c_ret2 [.t 4 (.bool r)] hd rfl hrv ⟨rfl, ok⟩) fun fin a E => sg <| aw E rfl fun a E => sg ?_
 refine mv E rfl fun a E => mv E rfl fun a E => ?_
 obtain ⟨r2, e3, hF⟩ := bnd hF
 refine l_call E go_105 rfl (slices_IndexFunc_api_Cond_api_Relation__68_w N _ s_0 hs_0 x0 l1 e3 hG ok) rfl rfl ?_
 rintro _ w ⟨⟨rfl, ok⟩, r4⟩
 refine ⟨_, rfl, fun a E => ?_⟩
 refine lw E (y_geq rfl rfl) fun a E => aw E rfl fun a E => wp_ret ?_
 exact fin hF ⟨ok, E.d, ⟨rv_t E rfl, trivial⟩⟩
def condition_Holds_R (u : World) (m0 : Mem) (S : Segs) (r : Bool × Int) (a : Act) (w : World) : Prop :=
 Ok u m0 S w ∧ a.defers = [] ∧ RVs Tryz.prog a w [.t 4 (.bool r.1), .t 5 (.int .i64 r.2)] ∧ InR .i64 r.2
theorem condition_Holds_w (N : Nat) (vc_0 : Value) (c_0 : List (List (Relation))) (hc_0 : (pL 1 (pL 4 pRelation)) m0 [vc_0] c_0) (number_1 : List UInt8) (lnumber_1 : number_1.length ≤ LIMS) {r : Bool × Int} (hF : condition_Holds N c_0 number_1 = some r) (hG : Glob u) (ok : Ok u m0 S w) :
  Calls Tryz.prog 24 [vc_0, vs number_1].toArray w fun e w' => (e = .returned (.tuple [(.bool r.1), (.int .i64 r.2)].toArray) ∧ Ok u m0 S w') ∧ InR .i64 r.2 := by
 unfold condition_Holds at hF
 refine en (condition_Holds_R u m0 S) r Tryz.func24 rfl rfl rfl (by rintro a w ⟨ok, hd, hrv, h0⟩; exact c_ret2 [.t 4 (.bool r.1), .t 5 (.int .i64 r.2)] hd rfl hrv ⟨⟨rfl, ok⟩, h0⟩) fun fin a E => sg <| l_box E ok rfl rfl rfl fun b1 a w E ok => av E rfl fun a E => aw E rfl fun a E => ?_
 refine wp_seq <| sg <| mv E rfl fun a E => ?_
 obtain ⟨r2, e3, hF⟩ := bnd hF
 refine lc E go_37 rfl (condition_Valid_w N _ c_0 hc_0 e3 hG ok) fun w ok a E => lw E (y_not rfl) fun a E => mv E rfl fun a E => bsplit (!r2) (fun hc4 => ?_) (fun hc4 => ?_)
 ·replace hF := cond_t hc4 hF
  replace E := E.upd 9 hc4 rfl
  refine ls E fun a E => ls E fun a E => ls E fun a E => pt E rfl rfl fun a E => wn <| c_if E rfl (fun _ => ?_) (fun h => by cases h)
  refine sg <| av E rfl fun a E => aw E rfl fun a E => wp_ret <| t_ret ?_
  exact fin hF ⟨ok.drop, E.d, ⟨rv_t E rfl, rv_t E rfl, trivial⟩, (ir 1)⟩
 replace hF := cond_f hc4 hF
 replace E := E.upd 9 hc4 rfl
 refine ld E ok one_9 0 rfl rfl rfl fun a E => ?_
 obtain ⟨r5, e6, hF⟩ := bnd hF
 refine lc E go_66 rfl (decimal_Valid_w N number_1 lnumber_1 e6 hG ok) fun w ok a E => lw E (y_not rfl) fun a E => pf E rfl rfl fun a E => wn <| cf E rfl hF (fun hc7 hF => ?_) fun hc7 hF => ?_
 ·refine sg <| av E rfl fun a E => aw E rfl fun a E => wp_ret <| t_ret ?_
  exact fin hF ⟨ok.drop, E.d, ⟨rv_t E rfl, rv_t E rfl, trivial⟩, (ir 1)⟩
 refine wp_skip <| t_norm <| sg <| mv E rfl fun a E => lv E ok (y_makeFunc (caps := [.tmp 3]) rfl) fun a E => ?_
 obtain ⟨r8, e9, hF⟩ := bnd hF
 refine lc E go_67 rfl (slices_ContainsFunc_api_Cond_api_Relation__68_w N _ c_0 hc_0 number_1 lnumber_1 e9 hG ok) fun w ok a E => av E rfl fun a E => aw E rfl fun a E => wp_ret ?_
 exact fin hF ⟨ok.drop, E.d, ⟨rv_t E rfl, rv_t E rfl, trivial⟩, (ir 0)⟩
def calqueref08_proper_R (u : World) (m0 : Mem) (S : Segs) (r : Bool) (a : Act) (w : World) : Prop :=
 Ok u m0 S w ∧ a.defers = [] ∧ RVs Tryz.prog a w [.t 2 (.bool r)]
theorem calqueref08_proper_w (N : Nat) (vr_0 : List Value) (r_0 : Relation) (hr_0 : pRelation m0 vr_0 r_0) {r : Bool} (hF : calqueref08_proper N r_0 = some r) (hG : Glob u) (ok : Ok u m0 S w) :
  Calls Tryz.prog 65 [.agg vr_0.toArray].toArray w fun e w' => (e = .returned (.bool r) ∧ Ok u m0 S w') := by
 obtain ⟨c3, rfl, r1, r2, h4⟩ := hr_0
 have hb0 := ok.base
 have le_m0 := Mem.le.refl m0
 unfold calqueref08_proper at hF
 refine en (calqueref08_proper_R u m0 S) r Tryz.func65 rfl rfl rfl (by rintro a w ⟨ok, hd, hrv⟩; exact c_ret2 [.t 2 (.bool r)] hd rfl hrv ⟨rfl, ok⟩) fun fin a E => sg <| l_box E ok rfl rfl rfl fun b5 a w E ok => aw E rfl fun a E => wp_seq ?_
 refine wp_seq ?_
 obtain ⟨o6, hJ, hF⟩ := bnd hF
 refine c_mono (Q' := fun e a w => e = .normal ∧ ∃ m7, m0.le m7 ∧ Ok u m7 ([(b5, oc 69 [vi r_0.Operand, vi r_0.Mod, vb r_0.Not, c3])] :: S) w ∧ Env 69 a [(1, vp b5), (38, vb o6)]) ?_ ?_
 rotate_left
 ·as_aux_lemma =>
   clear hJ
   intro e a w hO
   obtain ⟨rfl, m30, hle, ok, E⟩ := hO
   have le_m0 := le_m0.trans hle
   have h4 := (mL mSpan).up hle h4
   refine t_norm <| cf E rfl hF (fun hc31 hF => ?_) fun hc31 hF => ?_
   ·refine sg <| aw E rfl fun a E => wp_ret <| t_ret ?_
    exact fin hF ⟨(ok.drop).down hb0 le_m0, E.d, ⟨rv_t E rfl, trivial⟩⟩
   refine wp_skip <| t_norm <| wp_seq <| sg <| aw E rfl fun a E => ?_
   refine wp_block ?_
   obtain ⟨o33, hL, hF⟩ := bnd hF
   refine c_loop _ (fun (s : Int) a w => Ok u m30 ([(b5, oc 69 [vi r_0.Operand, vi r_0.Mod, vb r_0.Not, c3])] :: S) w ∧ Env 69 a [(1, vp b5), (3, vi s)] ∧ InR .i64 s) (fun (b : (Unit ⊕ Bool)) e a w => (Sum.elim (fun b56 => e = (.exit 0) ∧ Ok u m30 ([(b5, oc 69 [vi r_0.Operand, vi r_0.Mod, vb r_0.Not, c3])] :: S) w ∧ Env 69 a []) (fun b57 => e = .ret ∧ calqueref08_proper_R u m0 S b57 a w)) b) ?_ ?_ N _ a w hL ⟨ok, E.keep [1, 3], (ir 0)⟩
   rotate_left
   ·intro e a w _ hO
    rcases o33 with o33 | o33
    rotate_left
    ·replace hF := elim_r hF
     obtain ⟨rfl, hret⟩ := hO
     refine b_ret <| t_ret ?_
     exact fin hF hret
    replace hF := elim_l hF
    obtain ⟨rfl, ok, E⟩ := hO
    refine b_hit <| t_norm <| sg <| aw E rfl fun a E => wp_ret ?_
    exact fin hF ⟨(ok.drop).down hb0 le_m0, E.d, ⟨rv_t E rfl, trivial⟩⟩
   rintro i_35 a w r ⟨ok, E, r36⟩ hF
   replace hF : calqueref08_proper_b1 N r_0 i_35 = some r := hF
   unfold calqueref08_proper_b1 at hF
   refine wp_seq <| sg <| mv E rfl fun a E => fv E fo_69_3 rfl fun a E => ld E ok one_67 0 rfl rfl rfl fun a E => lv E ok (y_lenL sl_67 h4 rfl) fun a E => lw E (y_lss rfl rfl) fun a E => ?_
   refine wn <| cf E rfl hF (fun hc37 hF => ?_) fun hc37 hF => ?_
   rotate_left
   ·refine wp_exit <| t_exit ?_
    obtain rfl := sj hF
    exact so (sl ⟨rfl, ⟨ok, E.keep []⟩⟩)
   refine wp_skip <| t_norm <| wp_seq <| wp_block <| sg <| fv E fo_69_3 rfl fun a E => ld E ok one_67 0 rfl rfl rfl fun a E => ?_
   refine mv E rfl fun a E => ?_
   obtain ⟨x38, e39, hF⟩ := bnd hF
   obtain ⟨b40, o41, es42, hl43, rr44, at45, yy46⟩ := idxAt sl_67 h4 e39 (P := Tryz.prog) (X := .tmp 47) (I := .tmp 48) (kd := .i64) (ev_of E rfl) (ev_of E rfl)
   obtain ⟨rfl, r47, r48⟩ := rr44
   refine lv E ok (yy46 _ _) fun a E => lv E ok (y_loadAgg (cs := [vi x38.From, vi x38.To]) agg_126 rfl rfl (Holds.ro at45)) fun a E => l_alloc E ok zero_126 rfl rfl fun b49 a w E ok => l_storeB E ok 0 rfl rfl rfl inf_126 rfl rfl ⟨rfl, rfl, trivial⟩ rfl rfl fun w ok => wn <| wp_seq <| c_draw (by kernel_rfl) (by kernel_rfl) ok ?_
   refine qv E (y_fieldAddr fo_126_0 rfl) fun a E => qv E (y_load one_3 rfl (Holds.own 0 rfl rfl)) fun a E => qv E (y_lss rfl rfl) fun a E => qv E (y_move rfl) fun a E => bsplit (decide (x38.From < 0)) (fun hc50 => ?_) (fun hc50 => ?_)
   ·replace hF := cond_t hc50 hF
    replace E := E.upd 54 hc50 rfl
    refine qs E fun a E => qs E fun a E => qs E fun a E => qs E fun a E => qs E fun a E => qv E (y_pickT rfl rfl) fun a E => qv E (y_move rfl) fun a E => qs E fun a E => ?_
    refine qs E fun a E => qs E fun a E => qs E fun a E => qs E fun a E => qs E fun a E => qv E (y_pickT rfl rfl) fun a E => wpQuiet_nil ?_
    intro w ok
    refine t_norm <| c_if E rfl (fun _ => ?_) (fun h => by cases h)
    refine sg <| aw E rfl fun a E => wp_ret <| b_ret <| t_ret ?_
    obtain rfl := sj hF
    exact so (sr ⟨rfl, ⟨(ok.drop.drop).down hb0 le_m0, E.d, ⟨rv_t E rfl, trivial⟩⟩⟩)
   replace hF := cond_f hc50 hF
   replace E := E.upd 54 hc50 rfl
   refine qv E (y_fieldAddr fo_126_0 rfl) fun a E => qv E (y_load one_3 rfl (Holds.own 0 rfl rfl)) fun a E => qv E (y_fieldAddr fo_126_1 rfl) fun a E => qv E (y_load one_3 rfl (Holds.own 0 rfl rfl)) fun a E => qv E (y_gtr rfl rfl) fun a E => qv E (y_pickF rfl rfl) fun a E => qv E (y_move rfl) fun a E => bsplit (decide (x38.From > x38.To)) (fun hc51 => ?_) (fun hc51 => ?_)
   ·replace hF := cond_t hc51 hF
    replace E := E.upd 61 hc51 rfl
    refine qs E fun a E => qs E fun a E => qs E fun a E => qs E fun a E => qs E fun a E => qs E fun a E => qv E (y_pickT rfl rfl) fun a E => wpQuiet_nil ?_
    intro w ok
    refine t_norm <| c_if E rfl (fun _ => ?_) (fun h => by cases h)
    refine sg <| aw E rfl fun a E => wp_ret <| b_ret <| t_ret ?_
    obtain rfl := sj hF
    exact so (sr ⟨rfl, ⟨(ok.drop.drop).down hb0 le_m0, E.d, ⟨rv_t E rfl, trivial⟩⟩⟩)
   replace hF := cond_f hc51 hF
   replace E := E.upd 61 hc51 rfl
   refine qv E (y_fieldAddr fo_126_1 rfl) fun a E => qv E (y_load one_3 rfl (Holds.own 0 rfl rfl)) fun a E => qv E (y_fieldAddr fo_69_0 rfl) fun a E => qv E (y_load one_3 rfl (Holds.own 1 rfl rfl)) fun a E => ?_
   obtain ⟨r52, e53, hF⟩ := bnd hF
   obtain ⟨_, _, ⟨_, _⟩, r54⟩ := Go.X.Calls.get (calqueref08_Bound_w N r_0.Operand r1 e53 hG ok)
   refine q_call E go_103 rfl (fun w ok => (calqueref08_Bound_w N r_0.Operand r1 e53 hG ok).mono (fun _ _ h => h.1)) rfl rfl fun a E => qv E (y_gtr rfl rfl) fun a E => qv E (y_pickF rfl rfl) fun a E => wpQuiet_nil ?_
   intro w ok
   refine t_norm <| cf E rfl hF (fun hc55 hF => ?_) fun hc55 hF => ?_
   rotate_left
   ·refine wp_skip <| b_norm <| t_norm <| c_region <| mv E rfl fun a E => lw E (y_add rfl rfl (InR.inc r36 (pL_InR h4) hc37)) fun a E => av E rfl fun a E => wpList_nil ?_
    obtain rfl := sj hF
    exact step_n ⟨(ok.pk 2 [1] rfl (by decide)), E.keep [1, 3], (InR.inc r36 (pL_InR h4) hc37)⟩
   refine sg <| aw E rfl fun a E => wp_ret <| b_ret <| t_ret ?_
   obtain rfl := sj hF
   exact so (sr ⟨rfl, ⟨(ok.drop.drop).down hb0 le_m0, E.d, ⟨rv_t E rfl, trivial⟩⟩⟩)
 replace hF := hJ
 clear hJ
 refine bsplit (decide (r_0.Operand < 1)) (fun hc8 => ?_) (fun hc8 => ?_)
 ·replace hF := cond_t hc8 hF
  obtain rfl := sj hF
  refine k_begin [] (Cls u m0 ([(b5, oc 69 [vi r_0.Operand, vi r_0.Mod, vb r_0.Not, c3])] :: [])) (Cls u m0 ([(b5, oc 69 [vi r_0.Operand, vi r_0.Mod, vb r_0.Not, c3])] :: [])) (by kernel_rfl) ?_
  intro w hw
  replace ok := okdrew ok hw
  clear hw
  have h4_o := h4
  refine k_next (cl1 (cq le_m0 ok [0] rfl) (cq le_m0 ok [0] rfl)) fun hT => kt 0 E rfl hT (y_fieldAddr fo_69_0 rfl) fun a E => kt 1 E rfl hT (y_load one_3 rfl (Holds.cown 0 rfl rfl)) fun a E => kt 2 E rfl hT (y_lss rfl rfl) fun a E => kt 3 E rfl hT (y_move rfl) fun a E => ?_
  replace E := E.upd 8 hc8 rfl
  refine k_skip 4 false E rfl (by kernel_rfl) nP hT rfl rfl fun a E => k_skip 5 false E rfl (by kernel_rfl) nP hT rfl rfl fun a E => k_skip 6 false E rfl (by kernel_rfl) nP hT rfl rfl fun a E => kt 7 E rfl hT (y_pickT rfl rfl) fun a E => kt 8 E rfl hT (y_move rfl) fun a E => k_skip 9 false E rfl (by kernel_rfl) nP hT rfl rfl fun a E => k_skip 10 false E rfl (by kernel_rfl) nP hT rfl rfl fun a E => k_skip 11 false E rfl (by kernel_rfl) nP hT rfl rfl fun a E => ?_
  refine k_skip 12 false E rfl (by kernel_rfl) nP hT rfl rfl fun a E => k_skip 13 false E rfl (by kernel_rfl) nP hT rfl rfl fun a E => k_skip 14 false E rfl (by kernel_rfl) nP hT rfl rfl fun a E => k_skip 15 false E rfl (by kernel_rfl) nP hT rfl rfl fun a E => k_skip 16 false E rfl (by kernel_rfl) nP hT rfl rfl fun a E => k_skip 17 false E rfl (by kernel_rfl) nP hT rfl rfl fun a E => k_skip 18 false E rfl (by kernel_rfl) nP hT rfl rfl fun a E => k_skip 19 false E rfl (by kernel_rfl) nP hT rfl rfl fun a E => ?_
  refine k_skip 20 false E rfl (by kernel_rfl) nP hT rfl rfl fun a E => kt 21 E rfl hT (y_pickT rfl rfl) fun a E => kt 22 E rfl hT (y_move rfl) fun a E => k_skip 23 false E rfl (by kernel_rfl) nP hT rfl rfl fun a E => k_skip 24 false E rfl (by kernel_rfl) nP hT rfl rfl fun a E => k_skip 25 false E rfl (by kernel_rfl) nP hT rfl rfl fun a E => k_skip 26 false E rfl (by kernel_rfl) nP hT rfl rfl fun a E => kt 27 E rfl hT (y_pickT rfl rfl) fun a E => ?_
  refine kt 28 E rfl hT (y_move rfl) fun a E => k_skip 29 false E rfl (by kernel_rfl) nP hT rfl rfl fun a E => k_skip 30 false E rfl (by kernel_rfl) nP hT rfl rfl fun a E => k_skip 31 false E rfl (by kernel_rfl) nP hT rfl rfl fun a E => k_skip 32 false E rfl (by kernel_rfl) nP hT rfl rfl fun a E => kt 33 E rfl hT (y_pickT rfl rfl) fun a E => k_done (by kernel_rfl) ?_
  exact ⟨rfl, ⟨m0, le_m0, ok, E.keep [1, 38]⟩⟩
 replace hF := cond_f hc8 hF
 refine bsplit (decide (r_0.Operand > 6)) (fun hc9 => ?_) (fun hc9 => ?_)
 ·replace hF := cond_t hc9 hF
  obtain rfl := sj hF
  refine k_begin [] (Cls u m0 ([(b5, oc 69 [vi r_0.Operand, vi r_0.Mod, vb r_0.Not, c3])] :: [])) (Cls u m0 ([(b5, oc 69 [vi r_0.Operand, vi r_0.Mod, vb r_0.Not, c3])] :: [])) (by kernel_rfl) ?_
  intro w hw
  replace ok := okdrew ok hw
  clear hw
  have h4_o := h4
  refine k_next (cl1 (cq le_m0 ok [0] rfl) (cq le_m0 ok [0] rfl)) fun hT => kt 0 E rfl hT (y_fieldAddr fo_69_0 rfl) fun a E => kt 1 E rfl hT (y_load one_3 rfl (Holds.cown 0 rfl rfl)) fun a E => kt 2 E rfl hT (y_lss rfl rfl) fun a E => kt 3 E rfl hT (y_move rfl) fun a E => ?_
  replace E := E.upd 8 hc8 rfl
  refine kt 4 E rfl hT (y_fieldAddr fo_69_0 rfl) fun a E => kt 5 E rfl hT (y_load one_3 rfl (Holds.cown 0 rfl rfl)) fun a E => kt 6 E rfl hT (y_gtr rfl rfl) fun a E => kt 7 E rfl hT (y_pickF rfl rfl) fun a E => kt 8 E rfl hT (y_move rfl) fun a E => ?_
  replace E := E.upd 13 hc9 rfl
  refine k_skip 9 false E rfl (by kernel_rfl) nP hT rfl rfl fun a E => k_skip 10 false E rfl (by kernel_rfl) nP hT rfl rfl fun a E => k_skip 11 false E rfl (by kernel_rfl) nP hT rfl rfl fun a E => k_skip 12 false E rfl (by kernel_rfl) nP hT rfl rfl fun a E => k_skip 13 false E rfl (by kernel_rfl) nP hT rfl rfl fun a E => k_skip 14 false E rfl (by kernel_rfl) nP hT rfl rfl fun a E => k_skip 15 false E rfl (by kernel_rfl) nP hT rfl rfl fun a E => k_skip 16 false E rfl (by kernel_rfl) nP hT rfl rfl fun a E => ?_
  refine k_skip 17 false E rfl (by kernel_rfl) nP hT rfl rfl fun a E => k_skip 18 false E rfl (by kernel_rfl) nP hT rfl rfl fun a E => k_skip 19 false E rfl (by kernel_rfl) nP hT rfl rfl fun a E => k_skip 20 false E rfl (by kernel_rfl) nP hT rfl rfl fun a E => kt 21 E rfl hT (y_pickT rfl rfl) fun a E => kt 22 E rfl hT (y_move rfl) fun a E => k_skip 23 false E rfl (by kernel_rfl) nP hT rfl rfl fun a E => k_skip 24 false E rfl (by kernel_rfl) nP hT rfl rfl fun a E => ?_
  refine k_skip 25 false E rfl (by kernel_rfl) nP hT rfl rfl fun a E => k_skip 26 false E rfl (by kernel_rfl) nP hT rfl rfl fun a E => kt 27 E rfl hT (y_pickT rfl rfl) fun a E => kt 28 E rfl hT (y_move rfl) fun a E => k_skip 29 false E rfl (by kernel_rfl) nP hT rfl rfl fun a E => k_skip 30 false E rfl (by kernel_rfl) nP hT rfl rfl fun a E => k_skip 31 false E rfl (by kernel_rfl) nP hT rfl rfl fun a E => k_skip 32 false E rfl (by kernel_rfl) nP hT rfl rfl fun a E => ?_
  refine kt 33 E rfl hT (y_pickT rfl rfl) fun a E => k_done (by kernel_rfl) ?_
  exact ⟨rfl, ⟨m0, le_m0, ok, E.keep [1, 38]⟩⟩
 replace hF := cond_f hc9 hF
 refine bsplit (r_0.Mod != 0) (fun hc10 => ?_) (fun hc10 => ?_)
 rotate_left
 ·as_aux_lemma =>
   replace hF := cond_f hc10 hF
   refine bsplit (decide ((r_0.Spans.length : Int) < 1)) (fun hc29 => ?_) (fun hc29 => ?_)
   ·replace hF := cond_t hc29 hF
    obtain rfl := sj hF
    refine k_begin [] (Cls u m0 ([(b5, oc 69 [vi r_0.Operand, vi r_0.Mod, vb r_0.Not, c3])] :: [])) (Cls u m0 ([(b5, oc 69 [vi r_0.Operand, vi r_0.Mod, vb r_0.Not, c3])] :: [])) (by kernel_rfl) ?_
    intro w hw
    replace ok := okdrew ok hw
    clear hw
    have h4_o := h4
    refine k_next (cl1 (cq le_m0 ok [0] rfl) (cq le_m0 ok [0] rfl)) fun hT => kt 0 E rfl hT (y_fieldAddr fo_69_0 rfl) fun a E => kt 1 E rfl hT (y_load one_3 rfl (Holds.cown 0 rfl rfl)) fun a E => kt 2 E rfl hT (y_lss rfl rfl) fun a E => kt 3 E rfl hT (y_move rfl) fun a E => ?_
    replace E := E.upd 8 hc8 rfl
    refine kt 4 E rfl hT (y_fieldAddr fo_69_0 rfl) fun a E => kt 5 E rfl hT (y_load one_3 rfl (Holds.cown 0 rfl rfl)) fun a E => kt 6 E rfl hT (y_gtr rfl rfl) fun a E => kt 7 E rfl hT (y_pickF rfl rfl) fun a E => kt 8 E rfl hT (y_move rfl) fun a E => ?_
    replace E := E.upd 13 hc9 rfl
    refine kt 9 E rfl hT (y_fieldAddr fo_69_1 rfl) fun a E => kt 10 E rfl hT (y_load one_3 rfl (Holds.cown 0 rfl rfl)) fun a E => kt 11 E rfl hT (y_neq rfl rfl) fun a E => kt 12 E rfl hT (y_move rfl) fun a E => ?_
    replace E := E.upd 17 hc10 rfl
    refine k_skip 13 false E rfl (by kernel_rfl) nP hT rfl rfl fun a E => k_skip 14 false E rfl (by kernel_rfl) nP hT rfl rfl fun a E => k_skip 15 false E rfl (by kernel_rfl) nP hT rfl rfl fun a E => k_skip 16 false E rfl (by kernel_rfl) nP hT rfl rfl fun a E => k_skip 17 false E rfl (by kernel_rfl) nP hT rfl rfl fun a E => k_skip 18 false E rfl (by kernel_rfl) nP hT rfl rfl fun a E => k_skip 19 false E rfl (by kernel_rfl) nP hT rfl rfl fun a E => kt 20 E rfl hT (y_pickF rfl rfl) fun a E => ?_
    refine kt 21 E rfl hT (y_pickF rfl rfl) fun a E => kt 22 E rfl hT (y_move rfl) fun a E => kt 23 E rfl hT (y_fieldAddr fo_69_3 rfl) fun a E => kt 24 E rfl hT (y_load one_67 rfl (Holds.cown 0 rfl rfl)) fun a E => kt 25 E rfl hT (y_lenL sl_67 h4 rfl) fun a E => kt 26 E rfl hT (y_lss rfl rfl) fun a E => kt 27 E rfl hT (y_pickF rfl rfl) fun a E => kt 28 E rfl hT (y_move rfl) fun a E => ?_
    replace E := E.upd 33 hc29 rfl
    refine k_skip 29 false E rfl (by kernel_rfl) nP hT rfl rfl fun a E => k_skip 30 false E rfl (by kernel_rfl) nP hT rfl rfl fun a E => k_skip 31 false E rfl (by kernel_rfl) nP hT rfl rfl fun a E => k_skip 32 false E rfl (by kernel_rfl) nP hT rfl rfl fun a E => kt 33 E rfl hT (y_pickT rfl rfl) fun a E => k_done (by kernel_rfl) ?_
    exact ⟨rfl, ⟨m0, le_m0, ok, E.keep [1, 38]⟩⟩
   replace hF := cond_f hc29 hF
   obtain rfl := sj hF
   refine k_begin [] (Cls u m0 ([(b5, oc 69 [vi r_0.Operand, vi r_0.Mod, vb r_0.Not, c3])] :: [])) (Cls u m0 ([(b5, oc 69 [vi r_0.Operand, vi r_0.Mod, vb r_0.Not, c3])] :: [])) (by kernel_rfl) ?_
   intro w hw
   replace ok := okdrew ok hw
   clear hw
   have h4_o := h4
   refine k_next (cl1 (cq le_m0 ok [0] rfl) (cq le_m0 ok [0] rfl)) fun hT => kt 0 E rfl hT (y_fieldAddr fo_69_0 rfl) fun a E => kt 1 E rfl hT (y_load one_3 rfl (Holds.cown 0 rfl rfl)) fun a E => kt 2 E rfl hT (y_lss rfl rfl) fun a E => kt 3 E rfl hT (y_move rfl) fun a E => ?_
   replace E := E.upd 8 hc8 rfl
   refine kt 4 E rfl hT (y_fieldAddr fo_69_0 rfl) fun a E => kt 5 E rfl hT (y_load one_3 rfl (Holds.cown 0 rfl rfl)) fun a E => kt 6 E rfl hT (y_gtr rfl rfl) fun a E => kt 7 E rfl hT (y_pickF rfl rfl) fun a E => kt 8 E rfl hT (y_move rfl) fun a E => ?_
   replace E := E.upd 13 hc9 rfl
   refine kt 9 E rfl hT (y_fieldAddr fo_69_1 rfl) fun a E => kt 10 E rfl hT (y_load one_3 rfl (Holds.cown 0 rfl rfl)) fun a E => kt 11 E rfl hT (y_neq rfl rfl) fun a E => kt 12 E rfl hT (y_move rfl) fun a E => ?_
   replace E := E.upd 17 hc10 rfl
   refine k_skip 13 false E rfl (by kernel_rfl) nP hT rfl rfl fun a E => k_skip 14 false E rfl (by kernel_rfl) nP hT rfl rfl fun a E => k_skip 15 false E rfl (by kernel_rfl) nP hT rfl rfl fun a E => k_skip 16 false E rfl (by kernel_rfl) nP hT rfl rfl fun a E => k_skip 17 false E rfl (by kernel_rfl) nP hT rfl rfl fun a E => k_skip 18 false E rfl (by kernel_rfl) nP hT rfl rfl fun a E => k_skip 19 false E rfl (by kernel_rfl) nP hT rfl rfl fun a E => kt 20 E rfl hT (y_pickF rfl rfl) fun a E => ?_
   refine kt 21 E rfl hT (y_pickF rfl rfl) fun a E => kt 22 E rfl hT (y_move rfl) fun a E => kt 23 E rfl hT (y_fieldAddr fo_69_3 rfl) fun a E => kt 24 E rfl hT (y_load one_67 rfl (Holds.cown 0 rfl rfl)) fun a E => kt 25 E rfl hT (y_lenL sl_67 h4 rfl) fun a E => kt 26 E rfl hT (y_lss rfl rfl) fun a E => kt 27 E rfl hT (y_pickF rfl rfl) fun a E => kt 28 E rfl hT (y_move rfl) fun a E => ?_
   replace E := E.upd 33 hc29 rfl
   refine kt 29 E rfl hT (y_fieldAddr fo_69_3 rfl) fun a E => kt 30 E rfl hT (y_load one_67 rfl (Holds.cown 0 rfl rfl)) fun a E => kt 31 E rfl hT (y_lenL sl_67 h4 rfl) fun a E => kt 32 E rfl hT (y_gtr rfl rfl) fun a E => kt 33 E rfl hT (y_pickF rfl rfl) fun a E => k_done (by kernel_rfl) ?_
   exact ⟨rfl, ⟨m0, le_m0, ok, E.keep [1, 38]⟩⟩
 replace hF := cond_t hc10 hF
 obtain ⟨r11, e12, hF⟩ := bnd hF
 obtain ⟨r16, e17, hF⟩ := bnd hF
 refine bsplit (!r16) (fun hc18 => ?_) (fun hc18 => ?_)
 ·replace hF := cond_t hc18 hF
  obtain rfl := sj hF
  refine k_begin [] (Cls u m0 ([(b5, oc 69 [vi r_0.Operand, vi r_0.Mod, vb r_0.Not, c3])] :: [])) (Cls u m0 ([(b5, oc 69 [vi r_0.Operand, vi r_0.Mod, vb r_0.Not, c3])] :: [])) (by kernel_rfl) ?_
  intro w hw
  replace ok := okdrew ok hw
  clear hw
  have h4_o := h4
  refine k_next (cl1 (cq le_m0 ok [0] rfl) (cq le_m0 ok [0] rfl)) fun hT => kt 0 E rfl hT (y_fieldAddr fo_69_0 rfl) fun a E => kt 1 E rfl hT (y_load one_3 rfl (Holds.cown 0 rfl rfl)) fun a E => kt 2 E rfl hT (y_lss rfl rfl) fun a E => kt 3 E rfl hT (y_move rfl) fun a E => ?_
  replace E := E.upd 8 hc8 rfl
  refine kt 4 E rfl hT (y_fieldAddr fo_69_0 rfl) fun a E => kt 5 E rfl hT (y_load one_3 rfl (Holds.cown 0 rfl rfl)) fun a E => kt 6 E rfl hT (y_gtr rfl rfl) fun a E => kt 7 E rfl hT (y_pickF rfl rfl) fun a E => kt 8 E rfl hT (y_move rfl) fun a E => ?_
  replace E := E.upd 13 hc9 rfl
  refine kt 9 E rfl hT (y_fieldAddr fo_69_1 rfl) fun a E => kt 10 E rfl hT (y_load one_3 rfl (Holds.cown 0 rfl rfl)) fun a E => kt 11 E rfl hT (y_neq rfl rfl) fun a E => kt 12 E rfl hT (y_move rfl) fun a E => ?_
  replace E := E.upd 17 hc10 rfl
  refine kt 13 E rfl hT (y_fieldAddr fo_69_0 rfl) fun a E => kt 14 E rfl hT (y_load one_3 rfl (Holds.cown 0 rfl rfl)) fun a E => kt 16 E rfl hT (y_fieldAddr fo_69_1 rfl) fun a E => kt 17 E rfl hT (y_load one_3 rfl (Holds.cown 0 rfl rfl)) fun a E => k_all [15] (by kernel_rfl) rfl (one_c ?_)
  ·refine wo rfl <| l_call E go_102 rfl (calqueref08_Mods_w N r_0.Operand r1 e12 hG ok) rfl rfl ?_
   rintro _ w ⟨m19, c20, rfl, hle, ok, h21⟩
   have le_m0 := le_m0.trans hle
   have h4 := (mL mSpan).up hle h4
   refine ⟨_, rfl, fun a E => ?_⟩
   refine wn <| k_next (cl1 (cq le_m0 ok [0] rfl) (cq le_m0 ok [0] rfl)) fun hT => k_all [18] (by kernel_rfl) rfl (one_c ?_)
   ·refine wo rfl <| lc E go_101 rfl (calqueref08_has_w N _ r11 h21 r_0.Mod r2 e17 hG ok) fun w ok a E => wn <| k_next (cl1 (cq le_m0 ok [0] rfl) (cq le_m0 ok [0] rfl)) fun hT => kt 19 E rfl hT (y_not rfl) fun a E => kt 20 E rfl hT (y_pickT rfl rfl) fun a E => kt 21 E rfl hT (y_pickF rfl rfl) fun a E => kt 22 E rfl hT (y_move rfl) fun a E => ?_
    replace E := E.upd 27 hc18 rfl
    refine k_skip 23 false E rfl (by kernel_rfl) nP hT rfl rfl fun a E => k_skip 24 false E rfl (by kernel_rfl) nP hT rfl rfl fun a E => k_skip 25 false E rfl (by kernel_rfl) nP hT rfl rfl fun a E => k_skip 26 false E rfl (by kernel_rfl) nP hT rfl rfl fun a E => kt 27 E rfl hT (y_pickT rfl rfl) fun a E => kt 28 E rfl hT (y_move rfl) fun a E => k_skip 29 false E rfl (by kernel_rfl) nP hT rfl rfl fun a E => k_skip 30 false E rfl (by kernel_rfl) nP hT rfl rfl fun a E => ?_
    refine k_skip 31 false E rfl (by kernel_rfl) nP hT rfl rfl fun a E => k_skip 32 false E rfl (by kernel_rfl) nP hT rfl rfl fun a E => kt 33 E rfl hT (y_pickT rfl rfl) fun a E => k_done (by kernel_rfl) ?_
    exact ⟨rfl, ⟨m19, le_m0, ok, E.keep [1, 38]⟩⟩
 replace hF := cond_f hc18 hF
 refine bsplit (decide ((r_0.Spans.length : Int) < 1)) (fun hc22 => ?_) (fun hc22 => ?_)
 ·replace hF := cond_t hc22 hF
  obtain rfl := sj hF
  refine k_begin [] (Cls u m0 ([(b5, oc 69 [vi r_0.Operand, vi r_0.Mod, vb r_0.Not, c3])] :: [])) (Cls u m0 ([(b5, oc 69 [vi r_0.Operand, vi r_0.Mod, vb r_0.Not, c3])] :: [])) (by kernel_rfl) ?_
  intro w hw
  replace ok := okdrew ok hw
  clear hw
  have h4_o := h4
  refine k_next (cl1 (cq le_m0 ok [0] rfl) (cq le_m0 ok [0] rfl)) fun hT => kt 0 E rfl hT (y_fieldAddr fo_69_0 rfl) fun a E => kt 1 E rfl hT (y_load one_3 rfl (Holds.cown 0 rfl rfl)) fun a E => kt 2 E rfl hT (y_lss rfl rfl) fun a E => kt 3 E rfl hT (y_move rfl) fun a E => ?_
  replace E := E.upd 8 hc8 rfl
  refine kt 4 E rfl hT (y_fieldAddr fo_69_0 rfl) fun a E => kt 5 E rfl hT (y_load one_3 rfl (Holds.cown 0 rfl rfl)) fun a E => kt 6 E rfl hT (y_gtr rfl rfl) fun a E => kt 7 E rfl hT (y_pickF rfl rfl) fun a E => kt 8 E rfl hT (y_move rfl) fun a E => ?_
  replace E := E.upd 13 hc9 rfl
  refine kt 9 E rfl hT (y_fieldAddr fo_69_1 rfl) fun a E => kt 10 E rfl hT (y_load one_3 rfl (Holds.cown 0 rfl rfl)) fun a E => kt 11 E rfl hT (y_neq rfl rfl) fun a E => kt 12 E rfl hT (y_move rfl) fun a E => ?_
  replace E := E.upd 17 hc10 rfl
  refine kt 13 E rfl hT (y_fieldAddr fo_69_0 rfl) fun a E => kt 14 E rfl hT (y_load one_3 rfl (Holds.cown 0 rfl rfl)) fun a E => kt 16 E rfl hT (y_fieldAddr fo_69_1 rfl) fun a E => kt 17 E rfl hT (y_load one_3 rfl (Holds.cown 0 rfl rfl)) fun a E => k_all [15] (by kernel_rfl) rfl (one_c ?_)
  ·refine wo rfl <| l_call E go_102 rfl (calqueref08_Mods_w N r_0.Operand r1 e12 hG ok) rfl rfl ?_
   rintro _ w ⟨m23, c24, rfl, hle, ok, h25⟩
   have le_m0 := le_m0.trans hle
   have h4 := (mL mSpan).up hle h4
   refine ⟨_, rfl, fun a E => ?_⟩
   refine wn <| k_next (cl1 (cq le_m0 ok [0] rfl) (cq le_m0 ok [0] rfl)) fun hT => k_all [18] (by kernel_rfl) rfl (one_c ?_)
   ·refine wo rfl <| lc E go_101 rfl (calqueref08_has_w N _ r11 h25 r_0.Mod r2 e17 hG ok) fun w ok a E => wn <| k_next (cl1 (cq le_m0 ok [0] rfl) (cq le_m0 ok [0] rfl)) fun hT => kt 19 E rfl hT (y_not rfl) fun a E => kt 20 E rfl hT (y_pickT rfl rfl) fun a E => kt 21 E rfl hT (y_pickF rfl rfl) fun a E => kt 22 E rfl hT (y_move rfl) fun a E => ?_
    replace E := E.upd 27 hc18 rfl
    refine kt 23 E rfl hT (y_fieldAddr fo_69_3 rfl) fun a E => kt 24 E rfl hT (y_load one_67 rfl (Holds.cown 0 rfl rfl)) fun a E => kt 25 E rfl hT (y_lenL sl_67 h4 rfl) fun a E => kt 26 E rfl hT (y_lss rfl rfl) fun a E => kt 27 E rfl hT (y_pickF rfl rfl) fun a E => kt 28 E rfl hT (y_move rfl) fun a E => ?_
    replace E := E.upd 33 hc22 rfl
    refine k_skip 29 false E rfl (by kernel_rfl) nP hT rfl rfl fun a E => k_skip 30 false E rfl (by kernel_rfl) nP hT rfl rfl fun a E => k_skip 31 false E rfl (by kernel_rfl) nP hT rfl rfl fun a E => k_skip 32 false E rfl (by kernel_rfl) nP hT rfl rfl fun a E => kt 33 E rfl hT (y_pickT rfl rfl) fun a E => k_done (by kernel_rfl) ?_
    exact ⟨rfl, ⟨m23, le_m0, ok, E.keep [1, 38]⟩⟩
 replace hF := cond_f hc22 hF
 obtain rfl := sj hF
 refine k_begin [] (Cls u m0 ([(b5, oc 69 [vi r_0.Operand, vi r_0.Mod, vb r_0.Not, c3])] :: [])) (Cls u m0 ([(b5, oc 69 [vi r_0.Operand, vi r_0.Mod, vb r_0.Not, c3])] :: [])) (by kernel_rfl) ?_
 intro w hw
 replace ok := okdrew ok hw
 clear hw
 have h4_o := h4
 refine k_next (cl1 (cq le_m0 ok [0] rfl) (cq le_m0 ok [0] rfl)) fun hT => kt 0 E rfl hT (y_fieldAddr fo_69_0 rfl) fun a E => kt 1 E rfl hT (y_load one_3 rfl (Holds.cown 0 rfl rfl)) fun a E => kt 2 E rfl hT (y_lss rfl rfl) fun a E => kt 3 E rfl hT (y_move rfl) fun a E => ?_
 replace E := E.upd 8 hc8 rfl
 refine kt 4 E rfl hT (y_fieldAddr fo_69_0 rfl) fun a E => kt 5 E rfl hT (y_load one_3 rfl (Holds.cown 0 rfl rfl)) fun a E => kt 6 E rfl hT (y_gtr rfl rfl) fun a E => kt 7 E rfl hT (y_pickF rfl rfl) fun a E => kt 8 E rfl hT (y_move rfl) fun a E => ?_
 replace E := E.upd 13 hc9 rfl
 refine kt 9 E rfl hT (y_fieldAddr fo_69_1 rfl) fun a E => kt 10 E rfl hT (y_load one_3 rfl (Holds.cown 0 rfl rfl)) fun a E => kt 11 E rfl hT (y_neq rfl rfl) fun a E => kt 12 E rfl hT (y_move rfl) fun a E => ?_
 replace E := E.upd 17 hc10 rfl
 refine kt 13 E rfl hT (y_fieldAddr fo_69_0 rfl) fun a E => kt 14 E rfl hT (y_load one_3 rfl (Holds.cown 0 rfl rfl)) fun a E => kt 16 E rfl hT (y_fieldAddr fo_69_1 rfl) fun a E => kt 17 E rfl hT (y_load one_3 rfl (Holds.cown 0 rfl rfl)) fun a E => k_all [15] (by kernel_rfl) rfl (one_c ?_)
 ·refine wo rfl <| l_call E go_102 rfl (calqueref08_Mods_w N r_0.Operand r1 e12 hG ok) rfl rfl ?_
  rintro _ w ⟨m26, c27, rfl, hle, ok, h28⟩
  have le_m0 := le_m0.trans hle
  have h4 := (mL mSpan).up hle h4
  refine ⟨_, rfl, fun a E => ?_⟩
  refine wn <| k_next (cl1 (cq le_m0 ok [0] rfl) (cq le_m0 ok [0] rfl)) fun hT => k_all [18] (by kernel_rfl) rfl (one_c ?_)
  ·refine wo rfl <| lc E go_101 rfl (calqueref08_has_w N _ r11 h28 r_0.Mod r2 e17 hG ok) fun w ok a E => wn <| k_next (cl1 (cq le_m0 ok [0] rfl) (cq le_m0 ok [0] rfl)) fun hT => kt 19 E rfl hT (y_not rfl) fun a E => kt 20 E rfl hT (y_pickT rfl rfl) fun a E => kt 21 E rfl hT (y_pickF rfl rfl) fun a E => kt 22 E rfl hT (y_move rfl) fun a E => ?_
   replace E := E.upd 27 hc18 rfl
   refine kt 23 E rfl hT (y_fieldAddr fo_69_3 rfl) fun a E => kt 24 E rfl hT (y_load one_67 rfl (Holds.cown 0 rfl rfl)) fun a E => kt 25 E rfl hT (y_lenL sl_67 h4 rfl) fun a E => kt 26 E rfl hT (y_lss rfl rfl) fun a E => kt 27 E rfl hT (y_pickF rfl rfl) fun a E => kt 28 E rfl hT (y_move rfl) fun a E => ?_
   replace E := E.upd 33 hc22 rfl
   refine kt 29 E rfl hT (y_fieldAddr fo_69_3 rfl) fun a E => kt 30 E rfl hT (y_load one_67 rfl (Holds.cown 0 rfl rfl)) fun a E => kt 31 E rfl hT (y_lenL sl_67 h4 rfl) fun a E => kt 32 E rfl hT (y_gtr rfl rfl) fun a E => kt 33 E rfl hT (y_pickF rfl rfl) fun a E => k_done (by kernel_rfl) ?_
   exact ⟨rfl, ⟨m26, le_m0, ok, E.keep [1, 38]⟩⟩
def calqueref08_Valid_R (u : World) (m0 : Mem) (S : Segs) (r : Bool) (a : Act) (w : World) : Prop :=
 Ok u m0 S w ∧ a.defers = [] ∧ RVs Tryz.prog a w [.t 2 (.bool r)]
theorem calqueref08_Valid_w (N : Nat) (vc_0 : Value) (c_0 : List (List (Relation))) (hc_0 : (pL 1 (pL 4 pRelation)) m0 [vc_0] c_0) {r : Bool} (hF : calqueref08_Valid N c_0 = some r) (hG : Glob u) (ok : Ok u m0 S w) :
  Calls Tryz.prog 23 [vc_0].toArray w fun e w' => (e = .returned (.bool r) ∧ Ok u m0 S w') := by
 unfold calqueref08_Valid at hF
 refine en (calqueref08_Valid_R u m0 S) r Tryz.func23 rfl rfl rfl (by rintro a w ⟨ok, hd, hrv⟩; exact c_ret2 [.t 2 (.bool r)] hd rfl hrv ⟨rfl, ok⟩) fun fin a E => sg <| aw E rfl fun a E => sg ?_
 refine aw E rfl fun a E => wp_seq <| sg <| av E rfl fun a E => wpList_nil ?_
 refine t_norm <| wp_block ?_
 obtain ⟨o3, hL, hF⟩ := bnd hF
 refine c_loop _ (fun (s : Int × Int) a w => Ok u m0 (S) w ∧ Env 45 a [(0, vc_0), (3, vi s.1), (4, vi s.2)] ∧ InR .i64 s.1 ∧ InR .i64 s.2) (fun (b : (Int ⊕ Bool)) e a w => (Sum.elim (fun b77 => e = (.exit 0) ∧ Ok u m0 (S) w ∧ Env 45 a [(0, vc_0), (3, vi b77)] ∧ InR .i64 b77) (fun b79 => e = .ret ∧ calqueref08_Valid_R u m0 S b79 a w)) b) ?_ ?_ N _ a w hL ⟨ok, E.keep [0, 3, 4], (ir 0), (ir 0)⟩
 rotate_left
 ·intro e a w _ hO
  rcases o3 with o3 | o3
  rotate_left
  ·replace hF := elim_r hF
   obtain ⟨rfl, hret⟩ := hO
   refine b_ret <| t_ret ?_
   exact fin hF hret
  replace hF := elim_l hF
  obtain ⟨rfl, ok, E, r75⟩ := hO
  refine b_hit <| t_norm <| sg <| mv E rfl fun a E => lv E ok (y_lenL sl_23 hc_0 rfl) fun a E => lw E (y_gtr rfl rfl) fun a E => mv E rfl fun a E => ?_
  refine bsplit (decide ((c_0.length : Int) > 0)) (fun hc76 => ?_) (fun hc76 => ?_)
  ·replace hF := cond_t hc76 hF
   replace E := E.upd 41 hc76 rfl
   refine mv E rfl fun a E => lw E (y_leq rfl rfl) fun a E => pt E rfl rfl fun a E => aw E rfl fun a E => wp_ret ?_
   exact fin hF ⟨ok, E.d, ⟨rv_t E rfl, trivial⟩⟩
  replace hF := cond_f hc76 hF
  replace E := E.upd 41 hc76 rfl
  refine ls E fun a E => ls E fun a E => pf E rfl rfl fun a E => aw E rfl fun a E => wp_ret ?_
  exact fin hF ⟨ok, E.d, ⟨rv_t E rfl, trivial⟩⟩
 rintro ⟨n_6, i_7⟩ a w r ⟨ok, E, r8, r9⟩ hF
 replace hF : calqueref08_Valid_b1 N c_0 n_6 i_7 = some r := hF
 unfold calqueref08_Valid_b1 at hF
 refine wp_seq <| sg <| mv E rfl fun a E => mv E rfl fun a E => lv E ok (y_lenL sl_23 hc_0 rfl) fun a E => lw E (y_lss rfl rfl) fun a E => wpList_nil ?_
 refine t_norm <| cf E rfl hF (fun hc10 hF => ?_) fun hc10 hF => ?_
 rotate_left
 ·refine wp_exit <| t_exit ?_
  obtain rfl := sj hF
  exact so (sl ⟨rfl, ⟨ok, E.keep [0, 3], r8⟩⟩)
 refine wp_skip <| t_norm <| wp_seq <| wp_block <| wp_seq <| sg <| mv E rfl fun a E => ?_
 refine mv E rfl fun a E => ?_
 obtain ⟨x11, e12, hF⟩ := bnd hF
 obtain ⟨b13, o14, es15, hl16, rr17, at18, yy19⟩ := idxAt sl_23 hc_0 e12 (P := Tryz.prog) (X := .tmp 12) (I := .tmp 13) (kd := .i64) (ev_of E rfl) (ev_of E rfl)
 obtain ⟨c20, rfl, h21⟩ := pL_cell rr17
 refine lv E ok (yy19 _ _) fun a E => lv E ok (y_load one_66 rfl (Holds.ro at18)) fun a E => lv E ok (y_lenL sl_66 h21 rfl) fun a E => lw E (y_eql rfl rfl) fun a E => wn <| cf E rfl hF (fun hc22 hF => ?_) fun hc22 hF => ?_
 ·refine sg <| aw E rfl fun a E => wp_ret <| t_ret <| b_ret ?_
  refine t_ret ?_
  obtain rfl := sj hF
  exact so (sr ⟨rfl, ⟨ok, E.d, ⟨rv_t E rfl, trivial⟩⟩⟩)
 refine wp_skip <| t_norm <| sg <| aw E rfl fun a E => wp_block ?_
 obtain ⟨o25, hL, hF⟩ := bnd hF
 refine c_loop _ (fun (s : Int × Int) a w => Ok u m0 (S) w ∧ Env 45 a [(0, vc_0), (3, vi s.1), (4, vi i_7), (5, vi s.2)] ∧ InR .i64 s.1 ∧ InR .i64 s.2) (fun (b : (Int ⊕ Bool)) e a w => (Sum.elim (fun b72 => e = (.exit 2) ∧ Ok u m0 (S) w ∧ Env 45 a [(0, vc_0), (3, vi b72), (4, vi i_7)] ∧ InR .i64 b72) (fun b74 => e = .ret ∧ calqueref08_Valid_R u m0 S b74 a w)) b) ?_ ?_ N _ a w hL ⟨ok, E.keep [0, 3, 4, 5], r8, (ir 0)⟩
 rotate_left
 ·intro e a w _ hO
  rcases o25 with o25 | o25
  rotate_left
  ·replace hF := elim_r hF
   obtain ⟨rfl, hret⟩ := hO
   refine b_ret <| b_ret <| t_ret ?_
   obtain rfl := sj hF
   exact so (sr ⟨rfl, hret⟩)
  replace hF := elim_l hF
  obtain ⟨rfl, ok, E, r71⟩ := hO
  refine b_hit <| b_norm <| t_norm <| c_region <| mv E rfl fun a E => lw E (y_add rfl rfl (InR.inc r9 (pL_InR hc_0) hc10)) fun a E => av E rfl fun a E => wpList_nil ?_
  obtain rfl := sj hF
  exact step_n ⟨ok, E.keep [0, 3, 4], r71, (InR.inc r9 (pL_InR hc_0) hc10)⟩
 rintro ⟨n_28, k_29⟩ a w r ⟨ok, E, r30, r31⟩ hF
 replace hF : calqueref08_Valid_b2 N c_0 i_7 n_28 k_29 = some r := hF
 unfold calqueref08_Valid_b2 at hF
 refine wp_seq <| sg <| mv E rfl fun a E => mv E rfl fun a E => mv E rfl fun a E => ?_
 obtain ⟨x32, e33, hF⟩ := bnd hF
 obtain ⟨b34, o35, es36, hl37, rr38, at39, yy40⟩ := idxAt sl_23 hc_0 e33 (P := Tryz.prog) (X := .tmp 19) (I := .tmp 20) (kd := .i64) (ev_of E rfl) (ev_of E rfl)
 obtain ⟨c41, rfl, h42⟩ := pL_cell rr38
 refine lv E ok (yy40 _ _) fun a E => lv E ok (y_load one_66 rfl (Holds.ro at39)) fun a E => lv E ok (y_lenL sl_66 h42 rfl) fun a E => lw E (y_lss rfl rfl) fun a E => wn <| cf E rfl hF (fun hc43 hF => ?_) fun hc43 hF => ?_
 rotate_left
 ·refine wp_exit <| t_exit ?_
  obtain rfl := sj hF
  exact so (sl ⟨rfl, ⟨ok, E.keep [0, 3, 4], r30⟩⟩)
 refine wp_skip <| t_norm <| wp_seq <| wp_block <| sg <| mv E rfl fun a E => lw E (y_addw rfl rfl) fun a E => ?_
 refine aw E rfl fun a E => sg <| mv E rfl fun a E => mv E rfl fun a E => ?_
 obtain ⟨x44, e45, hF⟩ := bnd hF
 obtain ⟨b46, o47, es48, hl49, rr50, at51, yy52⟩ := idxAt sl_23 hc_0 e45 (P := Tryz.prog) (X := .tmp 29) (I := .tmp 30) (kd := .i64) (ev_of E rfl) (ev_of E rfl)
 obtain ⟨c53, rfl, h54⟩ := pL_cell rr50
 refine lv E ok (yy52 _ _) fun a E => lv E ok (y_load one_66 rfl (Holds.ro at51)) fun a E => mv E rfl fun a E => ?_
 obtain ⟨x55, e56, hF⟩ := bnd hF
 obtain ⟨b57, o58, es59, hl60, rr61, at62, yy63⟩ := idxAt sl_66 h54 e56 (P := Tryz.prog) (X := .tmp 32) (I := .tmp 33) (kd := .i64) (ev_of E rfl) (ev_of E rfl)
 obtain ⟨c66, rfl, r64, r65, h67⟩ := rr61
 refine lv E ok (yy63 _ _) fun a E => lv E ok (y_loadAgg (cs := [vi x55.Operand, vi x55.Mod, vb x55.Not, c66]) agg_69 rfl rfl (Holds.ro at62)) fun a E => ?_
 obtain ⟨r68, e69, hF⟩ := bnd hF
 refine lc E go_65 rfl (calqueref08_proper_w N _ x55 ⟨_, rfl, r64, r65, h67⟩ e69 hG ok) fun w ok a E => lw E (y_not rfl) fun a E => wn <| cf E rfl hF (fun hc70 hF => ?_) fun hc70 hF => ?_
 rotate_left
 ·refine wp_skip <| b_norm <| t_norm <| c_region <| mv E rfl fun a E => lw E (y_add rfl rfl (InR.inc r31 (pL_InR h42) hc43)) fun a E => av E rfl fun a E => wpList_nil ?_
  obtain rfl := sj hF
  exact step_n ⟨ok, E.keep [0, 3, 4, 5], (InR.wrap _ _), (InR.inc r31 (pL_InR h42) hc43)⟩
 refine sg <| aw E rfl fun a E => wp_ret <| b_ret <| t_ret ?_
 obtain rfl := sj hF
 exact so (sr ⟨rfl, ⟨ok, E.d, ⟨rv_t E rfl, trivial⟩⟩⟩)
def calqueref09_Symbol_R (u : World) (m0 : Mem) (S : Segs) (r : Int) (a : Act) (w : World) : Prop :=
 Ok u m0 S w ∧ a.defers = [] ∧ RVs Tryz.prog a w [.t 2 (.int .i64 r)] ∧ InR .i64 r
theorem calqueref09_Symbol_w (N : Nat) (c_0 : Int) (rc_0 : InR .u8 c_0) {r : Int} (hF : calqueref09_Symbol N c_0 = some r) (hG : Glob u) (ok : Ok u m0 S w) :
  Calls Tryz.prog 74 [Value.int .u8 c_0].toArray w fun e w' => (e = .returned (.int .i64 r) ∧ Ok u m0 S w') ∧ InR .i64 r := by
 unfold calqueref09_Symbol at hF
 refine en (calqueref09_Symbol_R u m0 S) r Tryz.func74 rfl rfl rfl (by rintro a w ⟨ok, hd, hrv, h0⟩; exact c_ret2 [.t 2 (.int .i64 r)] hd rfl hrv ⟨⟨rfl, ok⟩, h0⟩) fun fin a E => sg <| aw E rfl fun a E => wp_seq <| wp_seq ?_
 refine c_region <| mv E rfl fun a E => lw E (y_eql rfl rfl) fun a E => wn <| cf E rfl hF (fun hc1 hF => ?_) fun hc1 hF => ?_
 ·refine sg <| aw E rfl fun a E => wp_ret <| t_ret ?_
  exact fin hF ⟨ok, E.d, ⟨rv_t E rfl, trivial⟩, (ir 10)⟩
 refine wp_skip <| t_norm <| wp_seq <| sg <| mv E rfl fun a E => lw E (y_lss rfl rfl) fun a E => mv E rfl fun a E => ?_
 refine bsplit (decide (c_0 < 48)) (fun hc2 => ?_) (fun hc2 => ?_)
 ·replace hF := cond_t hc2 hF
  replace E := E.upd 7 hc2 rfl
  refine ls E fun a E => ls E fun a E => pt E rfl rfl fun a E => wn <| c_if E rfl (fun _ => ?_) (fun h => by cases h)
  refine sg <| aw E rfl fun a E => wp_ret <| t_ret ?_
  exact fin hF ⟨ok, E.d, ⟨rv_t E rfl, trivial⟩, (ir (-1))⟩
 replace hF := cond_f hc2 hF
 replace E := E.upd 7 hc2 rfl
 refine mv E rfl fun a E => lw E (y_gtr rfl rfl) fun a E => pf E rfl rfl fun a E => wn <| cf E rfl hF (fun hc3 hF => ?_) fun hc3 hF => ?_
 ·refine sg <| aw E rfl fun a E => wp_ret <| t_ret ?_
  exact fin hF ⟨ok, E.d, ⟨rv_t E rfl, trivial⟩, (ir (-1))⟩
 refine wp_skip <| t_norm <| sg <| mv E rfl fun a E => lw E (y_subw rfl rfl) fun a E => lw E (y_convw Tryz.underlying5 Tryz.underlying3 rfl (InR.wrap _ _) (by decide)) fun a E => av E rfl fun a E => ?_
 refine wn <| wp_ret ?_
 exact fin hF ⟨ok, E.d, ⟨rv_t E rfl, trivial⟩, (InR.widen (InR.wrap _ _) (by decide))⟩
def calqueref10_Before_R (u : World) (m0 : Mem) (S : Segs) (r : Bool) (a : Act) (w : World) : Prop :=
 Ok u m0 S w ∧ a.defers = [] ∧ RVs Tryz.prog a w [.t 4 (.bool r)]
theorem calqueref10_Before_w (N : Nat) (a_0 : List UInt8) (la_0 : a_0.length ≤ LIMS) (b_1 : List UInt8) (lb_1 : b_1.length ≤ LIMS) {r : Bool} (hF : calqueref10_Before N a_0 b_1 = some r) (hG : Glob u) (ok : Ok u m0 S w) :
  Calls Tryz.prog 28 [vs a_0, vs b_1].toArray w fun e w' => (e = .returned (.bool r) ∧ Ok u m0 S w') := by
 unfold calqueref10_Before at hF
 refine en (calqueref10_Before_R u m0 S) r Tryz.func28 rfl rfl rfl (by rintro a w ⟨ok, hd, hrv⟩; exact c_ret2 [.t 4 (.bool r)] hd rfl hrv ⟨rfl, ok⟩) fun fin a E => sg <| aw E rfl fun a E => wp_seq <| wp_seq ?_
 refine c_region <| mv E rfl fun a E => lw E (y_slen Tryz.underlying9 rfl) fun a E => mv E rfl fun a E => lw E (y_slen Tryz.underlying9 rfl) fun a E => lw E (y_neq rfl rfl) fun a E => wn ?_
 refine cf E rfl hF (fun hc1 hF => ?_) fun hc1 hF => ?_
 ·refine sg <| mv E rfl fun a E => lw E (y_slen Tryz.underlying9 rfl) fun a E => mv E rfl fun a E => lw E (y_slen Tryz.underlying9 rfl) fun a E => lw E (y_lss rfl rfl) fun a E => av E rfl fun a E => ?_
  refine wn <| wp_ret <| t_ret ?_
  exact fin hF ⟨ok, E.d, ⟨rv_t E rfl, trivial⟩⟩
 refine wp_skip <| t_norm <| wp_seq <| sg <| aw E rfl fun a E => ?_
 refine wp_block ?_
 obtain ⟨o3, hL, hF⟩ := bnd hF
 refine c_loop _ (fun (s : Int) a w => Ok u m0 (S) w ∧ Env 38 a [(0, vs a_0), (1, vs b_1), (5, vi s)] ∧ InR .i64 s) (fun (b : (Unit ⊕ Bool)) e a w => (Sum.elim (fun b23 => e = (.exit 0) ∧ Ok u m0 (S) w ∧ Env 38 a []) (fun b24 => e = .ret ∧ calqueref10_Before_R u m0 S b24 a w)) b) ?_ ?_ N _ a w hL ⟨ok, E.keep [0, 1, 5], (ir 0)⟩
 rotate_left
 ·intro e a w _ hO
  rcases o3 with o3 | o3
  rotate_left
  ·replace hF := elim_r hF
   obtain ⟨rfl, hret⟩ := hO
   refine b_ret <| t_ret ?_
   exact fin hF hret
  replace hF := elim_l hF
  obtain ⟨rfl, ok, E⟩ := hO
  refine b_hit <| t_norm <| sg <| aw E rfl fun a E => wp_ret ?_
  exact fin hF ⟨ok, E.d, ⟨rv_t E rfl, trivial⟩⟩
 rintro i_5 a w r ⟨ok, E, r6⟩ hF
 replace hF : calqueref10_Before_b1 N a_0 b_1 i_5 = some r := hF
 unfold calqueref10_Before_b1 at hF
 refine wp_seq <| sg <| mv E rfl fun a E => mv E rfl fun a E => lw E (y_slen Tryz.underlying9 rfl) fun a E => lw E (y_lss rfl rfl) fun a E => wpList_nil ?_
 refine t_norm <| cf E rfl hF (fun hc7 hF => ?_) fun hc7 hF => ?_
 rotate_left
 ·refine wp_exit <| t_exit ?_
  obtain rfl := sj hF
  exact so (sl ⟨rfl, ⟨ok, E.keep []⟩⟩)
 refine wp_skip <| t_norm <| wp_seq <| wp_block <| wp_seq <| c_draw (by kernel_rfl) (by kernel_rfl) ok <| qv E (y_move rfl) fun a E => qv E (y_move rfl) fun a E => ?_
 obtain ⟨c8, e9, hF⟩ := bnd hF
 refine qv E (y_index Tryz.underlying9 rfl rfl e9) fun a E => qv E (y_move rfl) fun a E => qv E (y_move rfl) fun a E => ?_
 obtain ⟨c10, e11, hF⟩ := bnd hF
 refine qv E (y_index Tryz.underlying9 rfl rfl e11) fun a E => qv E (y_neq rfl rfl) fun a E => wpQuiet_nil ?_
 intro w ok
 refine t_norm <| cf E rfl hF (fun hc12 hF => ?_) fun hc12 hF => ?_
 rotate_left
 ·refine wp_skip <| b_norm <| t_norm <| c_region <| mv E rfl fun a E => lw E (y_add rfl rfl (InR.inc r6 (InR.len la_0) hc7)) fun a E => av E rfl fun a E => wpList_nil ?_
  obtain rfl := sj hF
  exact step_n ⟨ok, E.keep [0, 1, 5], (InR.inc r6 (InR.len la_0) hc7)⟩
 refine wp_seq <| c_draw (by kernel_rfl) (by kernel_rfl) ok <| qv E (y_move rfl) fun a E => qv E (y_move rfl) fun a E => ?_
 obtain ⟨c13, e14, hF⟩ := bnd hF
 refine qv E (y_index Tryz.underlying9 rfl rfl e14) fun a E => ?_
 obtain ⟨r15, e16, hF⟩ := bnd hF
 obtain ⟨_, _, ⟨_, _⟩, r17⟩ := Go.X.Calls.get (calqueref09_Symbol_w N (c13.toNat : Int) (InR.byte c13) e16 hG ok)
 refine q_call E go_74 rfl (fun w ok => (calqueref09_Symbol_w N (c13.toNat : Int) (InR.byte c13) e16 hG ok).mono (fun _ _ h => h.1)) rfl rfl fun a E => qv E (y_move rfl) fun a E => qv E (y_move rfl) fun a E => ?_
 obtain ⟨c18, e19, hF⟩ := bnd hF
 refine qv E (y_index Tryz.underlying9 rfl rfl e19) fun a E => ?_
 obtain ⟨r20, e21, hF⟩ := bnd hF
 obtain ⟨_, _, ⟨_, _⟩, r22⟩ := Go.X.Calls.get (calqueref09_Symbol_w N (c18.toNat : Int) (InR.byte c18) e21 hG ok)
 refine q_call E go_74 rfl (fun w ok => (calqueref09_Symbol_w N (c18.toNat : Int) (InR.byte c18) e21 hG ok).mono (fun _ _ h => h.1)) rfl rfl fun a E => qv E (y_lss rfl rfl) fun a E => qv E (y_assign rfl) fun a E => wpQuiet_nil ?_
 intro w ok
 refine t_norm <| wp_ret <| b_ret <| t_ret ?_
 obtain rfl := sj hF
 exact so (sr ⟨rfl, ⟨ok, E.d, ⟨rv_t E rfl, trivial⟩⟩⟩)
def calqueref10_decimal_R (u : World) (m0 : Mem) (S : Segs) (r : (List UInt8)) (a : Act) (w : World) : Prop :=
 Ok u m0 S w ∧ a.defers = [] ∧ RVs Tryz.prog a w [.t 2 (.string (bs r))] ∧ r.length ≤ LIMS
theorem calqueref10_decimal_w (N : Nat) : ∀ {u : World} {m0 : Mem} {S : Segs} {w : World} (n_0 : Int) (rn_0 : InR .i64 n_0) {r : (List UInt8)} (hF : calqueref10_decimal N n_0 = some r) (hG : Glob u) (ok : Ok u m0 S w),
  Calls Tryz.prog 72 [vi n_0].toArray w fun e w' => (e = .returned (.string (bs r)) ∧ Ok u m0 S w') ∧ r.length ≤ LIMS := by
 induction N with
 | zero => intro u m0 S w n_0 rn_0 r hF hG ok; cases hF
 | succ N ih =>
 intro u m0 S w n_0 rn_0 r hF hG ok
 rw [calqueref10_decimal.eq_2] at hF
 refine en (calqueref10_decimal_R u m0 S) r Tryz.func72 rfl rfl rfl (by rintro a w ⟨ok, hd, hrv, h0⟩; exact c_ret2 [.t 2 (.string (bs r))] hd rfl hrv ⟨⟨rfl, ok⟩, h0⟩) fun fin a E => sg <| aw E rfl fun a E => wp_seq <| wp_seq ?_
 refine c_region <| mv E rfl fun a E => lw E (y_geq rfl rfl) fun a E => wn <| cf E rfl hF (fun hc1 hF => ?_) fun hc1 hF => ?_
 rotate_left
 ·refine wp_skip <| t_norm <| sg <| mv E rfl fun a E => lw E (y_addw rfl rfl) fun a E => lv E ok (y_conv Tryz.underlying3 Tryz.underlying5 rfl) fun a E => l_slit (R := (pI .u8)) (xo := [.tmp 14]) (xs := ([(IntKind.wrap .u8 (IntKind.wrap .i64 ((48 : Int) + n_0)))] : List (Int))) E ok sl_160 zero_5 rfl ⟨⟨_, rfl, rfl, (pI_mk (InR.wrap _ _))⟩, trivial⟩ rfl rfl rfl rfl fun c12 M13 a w E ok h14 => ?_
  refine lv E ok (y_bstr Tryz.underlying160 Tryz.underlying5 Tryz.underlying9 rfl (BR.ofRow h14 0 rfl)) fun a E => aw E rfl fun a E => wp_ret ?_
  exact fin hF ⟨ok.drop, E.d, ⟨rv_t E rfl, trivial⟩, (Nat.le_trans (Nat.le_of_eq bytesOf_len) h14.form.2)⟩
 refine sg <| mv E rfl fun a E => lv E ok (y_quo rfl rfl (by decide)) fun a E => ?_
 obtain ⟨r2, e3, hF⟩ := bnd hF
 refine l_call E go_72 rfl (ih (IntKind.wrap .i64 (n_0.tdiv 10)) (InR.wrap _ _) e3 hG ok) rfl rfl ?_
 rintro _ w ⟨⟨rfl, ok⟩, l4⟩
 refine ⟨_, rfl, fun a E => ?_⟩
 refine mv E rfl fun a E => ?_
 obtain ⟨q5, e6, hF⟩ := bnd hF
 refine lw E (y_rm rfl rfl e6) fun a E => ?_
 obtain ⟨r7, e8, hF⟩ := bnd hF
 refine l_call E go_72 rfl (ih q5 (rm_InR e6 rn_0) e8 hG ok) rfl rfl ?_
 rintro _ w ⟨⟨rfl, ok⟩, l9⟩
 refine ⟨_, rfl, fun a E => ?_⟩
 obtain ⟨s10, e11, hF⟩ := bnd hF
 refine lw E (y_cat rfl rfl e11) fun a E => aw E rfl fun a E => wp_ret <| t_ret ?_
 exact fin hF ⟨ok, E.d, ⟨rv_t E rfl, trivial⟩, (cat_len e11)⟩
end Go.Proofs.YtidfofhmnlhfjaaGreatDoor
namespace Go.Proofs.YtidfofhmnlhfjaaGreatDoor
open Go.X
def calqueref10_all_b1 (_N : Nat) (c_0 : List (List (Relation))) (out_13 : List (Relation)) (i_14 : Int) : Option (((List (Relation)) × Int) ⊕ (((List (Relation))))) :=
  bif (decide (i_14 < (c_0.length : Int))) then
    (idx c_0 i_14).bind fun x20 =>
    (app out_13 x20).bind fun l31 =>
    some (.inl (l31, (i_14 + 1)))
  else
    some (.inr out_13)
def calqueref10_all (N : Nat) (c_0 : List (List (Relation))) : Option (List (Relation)) :=
  (iter (fun s => calqueref10_all_b1 N c_0 s.1 s.2) N ([], 0)).bind fun o8 =>
  some o8
def calqueref10_whole (_N : Nat) (r_0 : Relation) : Option Bool :=
  bif (r_0.Operand == 1) then
    some true
  else
    some (r_0.Operand == 2)
def calqueref08_Inside_b1 (_N : Nat) (l_0 : List (Span)) (n_1 : Int) (i_4 : Int) : Option (Int ⊕ ((Unit ⊕ Bool))) :=
  bif (decide (i_4 < (l_0.length : Int))) then
    (idx l_0 i_4).bind fun x7 =>
    bif (decide (n_1 ≥ x7.From)) then
      (idx l_0 i_4).bind fun x19 =>
      bif (decide (n_1 ≤ x19.To)) then
        some (.inr (.inr true))
      else
        some (.inl (i_4 + 1))
    else
      some (.inl (i_4 + 1))
  else
    some (.inr (.inl ()))
def calqueref08_Inside (N : Nat) (l_0 : List (Span)) (n_1 : Int) : Option Bool :=
  (iter (fun s => calqueref08_Inside_b1 N l_0 n_1 s) N 0).bind fun o2 =>
  Sum.elim (fun _o2 =>
    some false)
  (fun o2 =>
    some o2) o2
def calqueref07_Trim_b1 (_N : Nat) (s_4 : List UInt8) : Option (((List UInt8)) ⊕ (((List UInt8)))) :=
  bif (decide ((s_4.length : Int) > 0)) then
    (idx s_4 ((s_4.length : Int) - 1)).bind fun c7 =>
    bif ((c7.toNat : Int) == 48) then
      (slc s_4 0 ((s_4.length : Int) - 1)).bind fun s10 =>
      some (.inl s10)
    else
      some (.inr s_4)
  else
    some (.inr s_4)
def calqueref07_Trim (N : Nat) (s_0 : List UInt8) : Option (List UInt8) :=
  (iter (fun s => calqueref07_Trim_b1 N s) N s_0).bind fun o2 =>
  some o2
def calqueref07_Operand (N : Nat) (s_0 : List UInt8) (operand_1 : Int) : Option (Int × Int) :=
  (calqueref07_Split N s_0).bind fun r1 =>
  bif (!r1.2) then
    some (0, 1)
  else
    bif (operand_1 == 1) then
      (calqueref07_Zero N r1.1.Frac).bind fun r11 =>
      bif (!r11) then
        some (0, 8)
      else
        (calqueref07_Value N r1.1.Whole).bind fun r14 =>
        some (r14, 0)
    else
      bif (operand_1 == 2) then
        (calqueref07_Value N r1.1.Whole).bind fun r18 =>
        some (r18, 0)
      else
        bif (operand_1 == 3) then
          some ((r1.1.Frac.length : Int), 0)
        else
          bif (operand_1 == 4) then
            (calqueref07_Trim N r1.1.Frac).bind fun r23 =>
            some ((r23.length : Int), 0)
          else
            bif (operand_1 == 5) then
              (calqueref07_Value N r1.1.Frac).bind fun r27 =>
              some (r27, 0)
            else
              bif (operand_1 == 6) then
                (calqueref07_Trim N r1.1.Frac).bind fun r31 =>
                (calqueref07_Value N r31).bind fun r34 =>
                some (r34, 0)
              else
                some (0, 1)
def calqueref08_Relation (N : Nat) (r_0 : Relation) (number_1 : List UInt8) : Option Bool :=
  (calqueref07_Operand N number_1 r_0.Operand).bind fun r6 =>
  bif (r6.2 != 0) then
    some r_0.Not
  else
    (show Option Int from
      bif (r_0.Mod != 0) then
        (rm r6.1 r_0.Mod).bind fun q14 =>
        some q14
      else
        some r6.1).bind fun o11 =>
    (calqueref08_Inside N r_0.Spans o11).bind fun r17 =>
    some (r17 != r_0.Not)
def calqueref10_vector_b1 (N : Nat) (l_0 : List (Relation)) (number_1 : List UInt8) (first_2 : Bool) (s_6 : List UInt8) (i_7 : Int) : Option (((List UInt8) × Int) ⊕ (((List UInt8)))) :=
  bif (decide (i_7 < (l_0.length : Int))) then
    (idx l_0 i_7).bind fun x11 =>
    (calqueref10_whole N x11).bind fun r24 =>
    bif (r24 != first_2) then
      some (.inl (s_6, (i_7 + 1)))
    else
      (idx l_0 i_7).bind fun x27 =>
      (calqueref08_Relation N x27 number_1).bind fun r40 =>
      bif r40 then
        (cat s_6 ([49])).bind fun s43 =>
        some (.inl (s43, (i_7 + 1)))
      else
        (cat s_6 ([48])).bind fun s45 =>
        some (.inl (s45, (i_7 + 1)))
  else
    some (.inr s_6)
def calqueref10_vector (N : Nat) (l_0 : List (Relation)) (number_1 : List UInt8) (first_2 : Bool) : Option (List UInt8) :=
  (iter (fun s => calqueref10_vector_b1 N l_0 number_1 first_2 s.1 s.2) N ([], 0)).bind fun o3 =>
  some o3
def calqueref10_place_b1 (_N : Nat) (l_0 : List (List UInt8)) (s_1 : List UInt8) (i_4 : Int) : Option (Int ⊕ ((Unit ⊕ Int))) :=
  bif (decide (i_4 < (l_0.length : Int))) then
    (idx l_0 i_4).bind fun x7 =>
    bif (x7 == s_1) then
      some (.inr (.inr i_4))
    else
      some (.inl (i_4 + 1))
  else
    some (.inr (.inl ()))
def calqueref10_place (N : Nat) (l_0 : List (List UInt8)) (s_1 : List UInt8) : Option Int :=
  (iter (fun s => calqueref10_place_b1 N l_0 s_1 s) N 0).bind fun o2 =>
  Sum.elim (fun _o2 =>
    some (-1))
  (fun o2 =>
    some o2) o2
def calqueref10_wholes_b1 (N : Nat) (l_0 : List (Relation)) (seen_21 : List (List UInt8)) (out_22 : List (List UInt8)) (n_23 : Int) : Option (((List (List UInt8)) × (List (List UInt8)) × Int) ⊕ (((List (List UInt8))))) :=
  bif (decide (n_23 ≤ 400)) then
    (calqueref10_decimal N n_23).bind fun r32 =>
    (calqueref10_vector N l_0 r32 true).bind fun r35 =>
    (calqueref10_place N seen_21 r35).bind fun r43 =>
    bif (decide (r43 < 0)) then
      (app seen_21 ([r35] : List (List UInt8))).bind fun l50 =>
      (calqueref10_decimal N n_23).bind fun r55 =>
      (app out_22 ([r55] : List (List UInt8))).bind fun l61 =>
      some (.inl (l50, l61, (IntKind.wrap .i64 (n_23 + 1))))
    else
      some (.inl (seen_21, out_22, (IntKind.wrap .i64 (n_23 + 1))))
  else
    some (.inr out_22)
def calqueref10_wholes (N : Nat) (l_0 : List (Relation)) : Option (List (List UInt8)) :=
  (iter (fun s => calqueref10_wholes_b1 N l_0 s.1 s.2.1 s.2.2) N ([], [], 0)).bind fun o13 =>
  some o13
def calqueref10_padded_b1 (_N : Nat) (width_1 : Int) (s_7 : List UInt8) : Option (((List UInt8)) ⊕ (((List UInt8)))) :=
  bif (decide ((s_7.length : Int) < width_1)) then
    (cat ([48]) s_7).bind fun s10 =>
    some (.inl s10)
  else
    some (.inr s_7)
def calqueref10_padded_b2 (_N : Nat) (zeros_2 : Int) (s_18 : List UInt8) (i_19 : Int) : Option (((List UInt8) × Int) ⊕ (((List UInt8)))) :=
  bif (decide (i_19 < zeros_2)) then
    (cat s_18 ([48])).bind fun s23 =>
    some (.inl (s23, (i_19 + 1)))
  else
    some (.inr s_18)
def calqueref10_padded (N : Nat) (n_0 : Int) (width_1 : Int) (zeros_2 : Int) : Option (List UInt8) :=
  (calqueref10_decimal N n_0).bind fun r1 =>
  (iter (fun s => calqueref10_padded_b1 N width_1 s) N r1).bind fun o5 =>
  (iter (fun s => calqueref10_padded_b2 N zeros_2 s.1 s.2) N (o5, 0)).bind fun o15 =>
  some o15
def calqueref10_fractions_b3 (N : Nat) (l_0 : List (Relation)) (seen_21 : List (List UInt8)) (n_23 : Int) (w_49 : Int) (seen_73 : List (List UInt8)) (out_74 : List (List UInt8)) (t_75 : Int) : Option (((List (List UInt8)) × (List (List UInt8)) × Int) ⊕ (((List (List UInt8)) × (List (List UInt8))))) :=
  bif (decide (t_75 < 300)) then
    (rm t_75 10).bind fun q84 =>
    bif ((q84 == 0) != (w_49 == 0)) then
      some (.inl (seen_73, out_74, (t_75 + 1)))
    else
      bif (w_49 == 0) then
        bif (decide (t_75 > 0)) then
          some (.inl (seen_73, out_74, (t_75 + 1)))
        else
          (calqueref10_decimal N t_75).bind fun r89 =>
          bif (decide ((r89.length : Int) > (max w_49 1))) then
            some (.inl (seen_73, out_74, (t_75 + 1)))
          else
            (show Option ((List UInt8)) from
              bif (decide (n_23 > 0)) then
                (calqueref10_padded N t_75 w_49 (IntKind.wrap .i64 (n_23 - w_49))).bind fun r96 =>
                some r96
              else
                some ([])).bind fun o93 =>
            (show Option ((List UInt8)) from
              bif (w_49 == 0) then
                (calqueref10_padded N 0 n_23 0).bind fun r103 =>
                (slc r103 0 n_23).bind fun s106 =>
                some s106
              else
                some o93).bind fun o100 =>
            (show Option ((List UInt8)) from
              bif (decide (n_23 > 0)) then
                (cat ([48, 46]) o100).bind fun s112 =>
                some s112
              else
                some ([48])).bind fun o109 =>
            (calqueref10_vector N l_0 o109 false).bind fun r115 =>
            (show Option ((List UInt8)) from
              bif (w_49 == 0) then
                (cat r115 ([48])).bind fun s121 =>
                some s121
              else
                some r115).bind fun o118 =>
            (calqueref10_place N seen_73 o118).bind fun r129 =>
            bif (decide (r129 < 0)) then
              (app seen_73 ([o118] : List (List UInt8))).bind fun l136 =>
              (app out_74 ([o100] : List (List UInt8))).bind fun l144 =>
              some (.inl (l136, l144, (t_75 + 1)))
            else
              bif (decide (r129 ≥ (seen_21.length : Int))) then
                (idx out_74 r129).bind fun x150 =>
                bif (sless o100 x150) then
                  (idx out_74 r129).bind fun _x162 =>
                  (setI out_74 r129 o100).bind fun l168 =>
                  some (.inl (seen_73, l168, (t_75 + 1)))
                else
                  some (.inl (seen_73, out_74, (t_75 + 1)))
              else
                some (.inl (seen_73, out_74, (t_75 + 1)))
      else
        (calqueref10_decimal N t_75).bind fun r172 =>
        bif (decide ((r172.length : Int) > (max w_49 1))) then
          some (.inl (seen_73, out_74, (t_75 + 1)))
        else
          (show Option ((List UInt8)) from
            bif (decide (n_23 > 0)) then
              (calqueref10_padded N t_75 w_49 (IntKind.wrap .i64 (n_23 - w_49))).bind fun r179 =>
              some r179
            else
              some ([])).bind fun o176 =>
          (show Option ((List UInt8)) from
            bif (w_49 == 0) then
              (calqueref10_padded N 0 n_23 0).bind fun r186 =>
              (slc r186 0 n_23).bind fun s189 =>
              some s189
            else
              some o176).bind fun o183 =>
          (show Option ((List UInt8)) from
            bif (decide (n_23 > 0)) then
              (cat ([48, 46]) o183).bind fun s195 =>
              some s195
            else
              some ([48])).bind fun o192 =>
          (calqueref10_vector N l_0 o192 false).bind fun r198 =>
          (show Option ((List UInt8)) from
            bif (w_49 == 0) then
              (cat r198 ([48])).bind fun s204 =>
              some s204
            else
              some r198).bind fun o201 =>
          (calqueref10_place N seen_73 o201).bind fun r212 =>
          bif (decide (r212 < 0)) then
            (app seen_73 ([o201] : List (List UInt8))).bind fun l219 =>
            (app out_74 ([o183] : List (List UInt8))).bind fun l227 =>
            some (.inl (l219, l227, (t_75 + 1)))
          else
            bif (decide (r212 ≥ (seen_21.length : Int))) then
              (idx out_74 r212).bind fun x233 =>
              bif (sless o183 x233) then
                (idx out_74 r212).bind fun _x245 =>
                (setI out_74 r212 o183).bind fun l251 =>
                some (.inl (seen_73, l251, (t_75 + 1)))
              else
                some (.inl (seen_73, out_74, (t_75 + 1)))
            else
              some (.inl (seen_73, out_74, (t_75 + 1)))
  else
    some (.inr (seen_73, out_74))
def calqueref10_fractions_b2 (N : Nat) (l_0 : List (Relation)) (seen_21 : List (List UInt8)) (n_23 : Int) (seen_47 : List (List UInt8)) (out_48 : List (List UInt8)) (w_49 : Int) : Option (((List (List UInt8)) × (List (List UInt8)) × Int) ⊕ (((List (List UInt8)) × (List (List UInt8))))) :=
  bif (decide (w_49 ≤ n_23)) then
    (iter (fun s => calqueref10_fractions_b3 N l_0 seen_21 n_23 w_49 s.1 s.2.1 s.2.2) N (seen_47, out_48, 0)).bind fun o65 =>
    some (.inl (o65.1, o65.2, (IntKind.wrap .i64 (w_49 + 1))))
  else
    some (.inr (seen_47, out_48))
def calqueref10_fractions_b1 (N : Nat) (l_0 : List (Relation)) (seen_21 : List (List UInt8)) (out_22 : List (List UInt8)) (n_23 : Int) : Option (((List (List UInt8)) × (List (List UInt8)) × Int) ⊕ (((List (List UInt8))))) :=
  bif (decide (n_23 ≤ 6)) then
    (iter (fun s => calqueref10_fractions_b2 N l_0 seen_21 n_23 s.1 s.2.1 s.2.2) N (seen_21, out_22, 0)).bind fun o39 =>
    some (.inl (o39.1, o39.2, (IntKind.wrap .i64 (n_23 + 1))))
  else
    some (.inr out_22)
def calqueref10_fractions (N : Nat) (l_0 : List (Relation)) : Option (List (List UInt8)) :=
  (iter (fun s => calqueref10_fractions_b1 N l_0 s.1 s.2.1 s.2.2) N ([], [], 0)).bind fun o13 =>
  some o13
def calqueref08_Holds_b2 (N : Nat) (c_0 : List (List (Relation))) (number_1 : List UInt8) (i_10 : Int) (all_16 : Bool) (k_17 : Int) : Option ((Bool × Int) ⊕ Bool) :=
  (idx c_0 i_10).bind fun x19 =>
  bif (decide (k_17 < (x19.length : Int))) then
    bif all_16 then
      (idx c_0 i_10).bind fun x32 =>
      (idx x32 k_17).bind fun x43 =>
      (calqueref08_Relation N x43 number_1).bind fun r56 =>
      some (.inl (r56, (k_17 + 1)))
    else
      some (.inl (false, (k_17 + 1)))
  else
    some (.inr all_16)
def calqueref08_Holds_b1 (N : Nat) (c_0 : List (List (Relation))) (number_1 : List UInt8) (i_10 : Int) : Option (Int ⊕ ((Unit ⊕ (Bool × Int)))) :=
  bif (decide (i_10 < (c_0.length : Int))) then
    (iter (fun s => calqueref08_Holds_b2 N c_0 number_1 i_10 s.1 s.2) N (true, 0)).bind fun o14 =>
    bif o14 then
      some (.inr (.inr (true, 0)))
    else
      some (.inl (i_10 + 1))
  else
    some (.inr (.inl ()))
def calqueref08_Holds (N : Nat) (c_0 : List (List (Relation))) (number_1 : List UInt8) : Option (Bool × Int) :=
  (calqueref08_Valid N c_0).bind fun r1 =>
  bif (!r1) then
    some (false, 1)
  else
    (calqueref07_Valid N number_1).bind fun r4 =>
    bif (!r4) then
      some (false, 1)
    else
      (iter (fun s => calqueref08_Holds_b1 N c_0 number_1 s) N 0).bind fun o8 =>
      Sum.elim (fun _o8 =>
        some (false, 0))
      (fun o8 =>
        some o8) o8
def calqueref10_shows_b1 (N : Nat) (l_0 : List (List (List (Relation)))) (number_1 : List UInt8) (n_6 : Int) (i_7 : Int) : Option ((Int × Int) ⊕ Int) :=
  bif (decide (i_7 < (l_0.length : Int))) then
    (idx l_0 i_7).bind fun x11 =>
    (calqueref08_Holds N x11 number_1).bind fun r22 =>
    bif r22.1 then
      some (.inl ((IntKind.wrap .i64 (n_6 + 1)), (i_7 + 1)))
    else
      some (.inl (n_6, (i_7 + 1)))
  else
    some (.inr n_6)
def calqueref10_shows (N : Nat) (l_0 : List (List (List (Relation)))) (number_1 : List UInt8) (property_2 : Int) : Option Bool :=
  (iter (fun s => calqueref10_shows_b1 N l_0 number_1 s.1 s.2) N (0, 0)).bind fun o3 =>
  bif (property_2 == 0) then
    some (decide (o3 > 0))
  else
    bif (property_2 == 1) then
      some (o3 == 0)
    else
      bif (property_2 == 2) then
        some (o3 == 2)
      else
        some (o3 == 1)
def calqueref10_first_b1 (N : Nat) (l_0 : List (List (List (Relation)))) (relations_14 : List (Relation)) (i_15 : Int) : Option (((List (Relation)) × Int) ⊕ (((List (Relation))))) :=
  bif (decide (i_15 < (l_0.length : Int))) then
    (idx l_0 i_15).bind fun x22 =>
    (calqueref10_all N x22).bind fun r33 =>
    (app relations_14 r33).bind fun l38 =>
    some (.inl (l38, (i_15 + 1)))
  else
    some (.inr relations_14)
def calqueref10_first_b3 (N : Nat) (l_0 : List (List (List (Relation)))) (property_1 : Int) (r49 : (List (List UInt8))) (r54 : (List (List UInt8))) (i_66 : Int) (best_75 : List UInt8) (ok_76 : Bool) (k_77 : Int) : Option (((List UInt8) × Bool × Int) ⊕ (((List UInt8) × Bool))) :=
  bif (decide (k_77 < (r54.length : Int))) then
    (idx r49 i_66).bind fun x81 =>
    (idx r54 k_77).bind fun x91 =>
    (show Option ((List UInt8)) from
      bif (x91 != ([])) then
        (idx r54 k_77).bind fun x104 =>
        (cat ([46]) x104).bind fun s114 =>
        (cat x81 s114).bind fun s116 =>
        some s116
      else
        some x81).bind fun o101 =>
    (calqueref10_shows N l_0 o101 property_1).bind fun r119 =>
    bif r119 then
      bif (!ok_76) then
        some (.inl (o101, true, (k_77 + 1)))
      else
        (calqueref10_Before N o101 best_75).bind fun r123 =>
        bif r123 then
          some (.inl (o101, true, (k_77 + 1)))
        else
          some (.inl (best_75, ok_76, (k_77 + 1)))
    else
      some (.inl (best_75, ok_76, (k_77 + 1)))
  else
    some (.inr (best_75, ok_76))
def calqueref10_first_b2 (N : Nat) (l_0 : List (List (List (Relation)))) (property_1 : Int) (r49 : (List (List UInt8))) (r54 : (List (List UInt8))) (best_64 : List UInt8) (ok_65 : Bool) (i_66 : Int) : Option (((List UInt8) × Bool × Int) ⊕ (((List UInt8) × Bool))) :=
  bif (decide (i_66 < (r49.length : Int))) then
    (iter (fun s => calqueref10_first_b3 N l_0 property_1 r49 r54 i_66 s.1 s.2.1 s.2.2) N (best_64, ok_65, 0)).bind fun o72 =>
    some (.inl (o72.1, o72.2, (i_66 + 1)))
  else
    some (.inr (best_64, ok_65))
def calqueref10_first (N : Nat) (l_0 : List (List (List (Relation)))) (property_1 : Int) : Option ((List UInt8) × Bool) :=
  (iter (fun s => calqueref10_first_b1 N l_0 s.1 s.2) N ([], 0)).bind fun o8 =>
  (calqueref10_wholes N o8).bind fun r49 =>
  (calqueref10_fractions N o8).bind fun r54 =>
  (iter (fun s => calqueref10_first_b2 N l_0 property_1 r49 r54 s.1 s.2.1 s.2.2) N ([], false, 0)).bind fun o61 =>
  some (o61.1, o61.2)
end Go.Proofs.YtidfofhmnlhfjaaGreatDoor
namespace Go.Proofs.YtidfofhmnlhfjaaGreatDoor
open Go.X
variable {u : World} {m0 : Mem} {S : Segs} {w : World}
set_option maxHeartbeats 4000000
set_option maxRecDepth 100000
theorem go_100 : goB Tryz.prog 100 = true := by kernel_rfl
theorem go_121 : goB Tryz.prog 121 = true := by kernel_rfl
theorem go_130 : goB Tryz.prog 130 = true := by kernel_rfl
theorem go_131 : goB Tryz.prog 131 = true := by kernel_rfl
theorem go_132 : goB Tryz.prog 132 = true := by kernel_rfl
theorem go_133 : goB Tryz.prog 133 = true := by kernel_rfl
theorem go_151 : goB Tryz.prog 151 = true := by kernel_rfl
theorem go_152 : goB Tryz.prog 152 = true := by kernel_rfl
theorem go_167 : goB Tryz.prog 167 = true := by kernel_rfl
theorem go_182 : goB Tryz.prog 182 = true := by kernel_rfl
theorem go_23 : goB Tryz.prog 23 = true := by kernel_rfl
theorem go_28 : goB Tryz.prog 28 = true := by kernel_rfl
theorem go_39 : goB Tryz.prog 39 = true := by kernel_rfl
theorem go_98 : goB Tryz.prog 98 = true := by kernel_rfl
theorem go_99 : goB Tryz.prog 99 = true := by kernel_rfl
theorem sl_147 : SlT Tryz.prog 147 9 1 := SlT.of (by kernel_rfl)
theorem zero_9 : zeroB Tryz.prog 9 = some [(vs ([]))] := by kernel_rfl
def calqueref10_all_R (u : World) (m0 : Mem) (S : Segs) (r : (List (Relation))) (a : Act) (w : World) : Prop :=
 ∃ m1 v0, m0.le m1 ∧ Ok u m1 S w ∧ a.defers = [] ∧ RVs Tryz.prog a w [.t 2 v0] ∧ (pL 4 pRelation) m1 [v0] r
theorem calqueref10_all_w (N : Nat) (vc_0 : Value) (c_0 : List (List (Relation))) (hc_0 : (pL 1 (pL 4 pRelation)) m0 [vc_0] c_0) {r : (List (Relation))} (hF : calqueref10_all N c_0 = some r) (hG : Glob u) (ok : Ok u m0 S w) :
  Calls Tryz.prog 39 [vc_0].toArray w fun e w' => ∃ m1 v0, e = .returned v0 ∧ m0.le m1 ∧ Ok u m1 S w' ∧ (pL 4 pRelation) m1 [v0] r := by
 have le_m0 := Mem.le.refl m0
 unfold calqueref10_all at hF
 refine en (calqueref10_all_R u m0 S) r Tryz.func39 rfl rfl rfl (by rintro a w ⟨m1, v0, hle, ok, hd, hrv, h0⟩; exact c_ret2 [.t 2 v0] hd rfl hrv ⟨m1, v0, rfl, hle, ok, h0⟩) fun fin a E => sg <| aw E rfl fun a E => sg ?_
 refine aw E rfl fun a E => wp_seq <| sg <| av E rfl fun a E => wpList_nil ?_
 refine t_norm <| wp_block ?_
 obtain ⟨M6, ok, h7⟩ := nilrow (e := 69) (k := 4) (R := pRelation) ok
 obtain ⟨o8, hL, hF⟩ := bnd hF
 refine c_loop _ (fun (s : (List (Relation)) × Int) a w => ∃ c9 M10, Ok u m0 (M10 :: S) w ∧ Env 18 a [(0, vc_0), (3, c9), (4, vi s.2)] ∧ ORow 69 4 pRelation m0 c9 s.1 M10 ∧ InR .i64 s.2) (fun (b : ((List (Relation)))) e a w => e = (.exit 0) ∧ ∃ c41 M42, Ok u m0 (M42 :: S) w ∧ Env 18 a [(3, c41)] ∧ ORow 69 4 pRelation m0 c41 b M42) ?_ ?_ N _ a w hL ⟨(Value.slice none 0 0), M6, ok, E.keep [0, 3, 4], h7, (ir 0)⟩
 rotate_left
 ·intro e a w _ hO
  obtain ⟨rfl, c36, M37, ok, E, h38⟩ := hO
  refine b_hit <| t_norm <| sg <| mv E rfl fun a E => aw E rfl fun a E => ?_
  refine wp_ret ?_
  obtain ⟨m39, hle, ok, hfz⟩ := (ok.frs 0 rfl).freeze
  have h40 := ORow.froz mRelation h38 hle hfz (by decide)
  have le_m0 := le_m0.trans hle
  have hc_0 := (mL (mL mRelation)).up hle hc_0
  exact fin hF ⟨m39, c36, le_m0, ok, E.d, ⟨rv_t E rfl, trivial⟩, h40⟩
 rintro ⟨out_13, i_14⟩ a w r ⟨c15, M16, ok, E, h17, r18⟩ hF
 replace hF : calqueref10_all_b1 N c_0 out_13 i_14 = some r := hF
 unfold calqueref10_all_b1 at hF
 refine wp_seq <| sg <| mv E rfl fun a E => mv E rfl fun a E => lv E ok (y_lenL sl_23 hc_0 rfl) fun a E => lw E (y_lss rfl rfl) fun a E => wpList_nil ?_
 refine t_norm <| cf E rfl hF (fun hc19 hF => ?_) fun hc19 hF => ?_
 rotate_left
 ·refine wp_exit <| t_exit ?_
  obtain rfl := sj hF
  exact so (⟨rfl, ⟨c15, M16, ok, E.keep [3], h17⟩⟩)
 refine wp_skip <| t_norm <| wp_seq <| wp_block <| c_region <| mv E rfl fun a E => mv E rfl fun a E => mv E rfl fun a E => ?_
 obtain ⟨x20, e21, hF⟩ := bnd hF
 obtain ⟨b22, o23, es24, hl25, rr26, at27, yy28⟩ := idxAt sl_23 hc_0 e21 (P := Tryz.prog) (X := .tmp 12) (I := .tmp 13) (kd := .i64) (ev_of E rfl) (ev_of E rfl)
 obtain ⟨c29, rfl, h30⟩ := pL_cell rr26
 refine lv E ok (yy28 _ _) fun a E => lv E ok (y_load one_66 rfl (Holds.ro at27)) fun a E => ?_
 obtain ⟨l31, e32, hF⟩ := bnd hF
 refine l_app (R := pRelation) E ok 0 mRelation sl_66 Tryz.underlying66 rfl h17 (SrcOK.ofL h30 ok) e32 ⟨_, zero_69, rfl⟩ rfl rfl rfl rfl fun c33 M34 a w E ok h35 => av E rfl fun a E => wpList_nil <| b_norm <| t_norm <| c_region <| mv E rfl fun a E => lw E (y_add rfl rfl (InR.inc r18 (pL_InR hc_0) hc19)) fun a E => ?_
 refine av E rfl fun a E => wpList_nil ?_
 obtain rfl := sj hF
 exact step_n ⟨c33, M34, ok, E.keep [0, 3, 4], h35, (InR.inc r18 (pL_InR hc_0) hc19)⟩
def calqueref10_whole_R (u : World) (m0 : Mem) (S : Segs) (r : Bool) (a : Act) (w : World) : Prop :=
 Ok u m0 S w ∧ a.defers = [] ∧ RVs Tryz.prog a w [.t 2 (.bool r)]
theorem calqueref10_whole_w (N : Nat) (vr_0 : List Value) (r_0 : Relation) (hr_0 : pRelation m0 vr_0 r_0) {r : Bool} (hF : calqueref10_whole N r_0 = some r) (hG : Glob u) (ok : Ok u m0 S w) :
  Calls Tryz.prog 151 [.agg vr_0.toArray].toArray w fun e w' => (e = .returned (.bool r) ∧ Ok u m0 S w') := by
 obtain ⟨c3, rfl, r1, r2, h4⟩ := hr_0
 unfold calqueref10_whole at hF
 refine en (calqueref10_whole_R u m0 S) r Tryz.func151 rfl rfl rfl (by rintro a w ⟨ok, hd, hrv⟩; exact c_ret2 [.t 2 (.bool r)] hd rfl hrv ⟨rfl, ok⟩) fun fin a E => sg <| l_box E ok rfl rfl rfl fun b5 a w E ok => aw E rfl fun a E => wp_seq ?_
 refine c_region <| fv E fo_69_0 rfl fun a E => ld E ok one_3 0 rfl rfl rfl fun a E => lw E (y_eql rfl rfl) fun a E => mv E rfl fun a E => bsplit (r_0.Operand == 1) (fun hc6 => ?_) (fun hc6 => ?_)
 ·replace hF := cond_t hc6 hF
  replace E := E.upd 6 hc6 rfl
  refine ls E fun a E => ls E fun a E => ls E fun a E => pt E rfl rfl fun a E => aw E rfl fun a E => wp_ret ?_
  exact fin hF ⟨ok.drop, E.d, ⟨rv_t E rfl, trivial⟩⟩
 replace hF := cond_f hc6 hF
 replace E := E.upd 6 hc6 rfl
 refine fv E fo_69_0 rfl fun a E => ld E ok one_3 0 rfl rfl rfl fun a E => lw E (y_eql rfl rfl) fun a E => pf E rfl rfl fun a E => aw E rfl fun a E => wp_ret ?_
 exact fin hF ⟨ok.drop, E.d, ⟨rv_t E rfl, trivial⟩⟩
def calqueref08_Inside_R (u : World) (m0 : Mem) (S : Segs) (r : Bool) (a : Act) (w : World) : Prop :=
 Ok u m0 S w ∧ a.defers = [] ∧ RVs Tryz.prog a w [.t 4 (.bool r)]
theorem calqueref08_Inside_w (N : Nat) (vl_0 : Value) (l_0 : List (Span)) (hl_0 : (pL 2 pSpan) m0 [vl_0] l_0) (n_1 : Int) (rn_1 : InR .i64 n_1) {r : Bool} (hF : calqueref08_Inside N l_0 n_1 = some r) (hG : Glob u) (ok : Ok u m0 S w) :
  Calls Tryz.prog 121 [vl_0, vi n_1].toArray w fun e w' => (e = .returned (.bool r) ∧ Ok u m0 S w') := by
 unfold calqueref08_Inside at hF
 refine en (calqueref08_Inside_R u m0 S) r Tryz.func121 rfl rfl rfl (by rintro a w ⟨ok, hd, hrv⟩; exact c_ret2 [.t 4 (.bool r)] hd rfl hrv ⟨rfl, ok⟩) fun fin a E => sg <| aw E rfl fun a E => wp_seq <| wp_seq ?_
 refine c_region <| aw E rfl fun a E => wp_block ?_
 obtain ⟨o2, hL, hF⟩ := bnd hF
 refine c_loop _ (fun (s : Int) a w => Ok u m0 (S) w ∧ Env 28 a [(0, vl_0), (1, vi n_1), (5, vi s)] ∧ InR .i64 s) (fun (b : (Unit ⊕ Bool)) e a w => (Sum.elim (fun b31 => e = (.exit 0) ∧ Ok u m0 (S) w ∧ Env 28 a []) (fun b32 => e = .ret ∧ calqueref08_Inside_R u m0 S b32 a w)) b) ?_ ?_ N _ a w hL ⟨ok, E.keep [0, 1, 5], (ir 0)⟩
 rotate_left
 ·intro e a w _ hO
  rcases o2 with o2 | o2
  rotate_left
  ·replace hF := elim_r hF
   obtain ⟨rfl, hret⟩ := hO
   refine b_ret <| t_ret ?_
   exact fin hF hret
  replace hF := elim_l hF
  obtain ⟨rfl, ok, E⟩ := hO
  refine b_hit <| t_norm <| sg <| aw E rfl fun a E => wp_ret ?_
  exact fin hF ⟨ok, E.d, ⟨rv_t E rfl, trivial⟩⟩
 rintro i_4 a w r ⟨ok, E, r5⟩ hF
 replace hF : calqueref08_Inside_b1 N l_0 n_1 i_4 = some r := hF
 unfold calqueref08_Inside_b1 at hF
 refine wp_seq <| sg <| mv E rfl fun a E => mv E rfl fun a E => lv E ok (y_lenL sl_67 hl_0 rfl) fun a E => lw E (y_lss rfl rfl) fun a E => wpList_nil ?_
 refine t_norm <| cf E rfl hF (fun hc6 hF => ?_) fun hc6 hF => ?_
 rotate_left
 ·refine wp_exit <| t_exit ?_
  obtain rfl := sj hF
  exact so (sl ⟨rfl, ⟨ok, E.keep []⟩⟩)
 refine wp_skip <| t_norm <| wp_seq <| wp_block <| sg <| mv E rfl fun a E => mv E rfl fun a E => ?_
 refine mv E rfl fun a E => ?_
 obtain ⟨x7, e8, hF⟩ := bnd hF
 obtain ⟨b9, o10, es11, hl12, rr13, at14, yy15⟩ := idxAt sl_67 hl_0 e8 (P := Tryz.prog) (X := .tmp 13) (I := .tmp 14) (kd := .i64) (ev_of E rfl) (ev_of E rfl)
 obtain ⟨rfl, r16, r17⟩ := rr13
 refine lv E ok (yy15 _ _) fun a E => fv E fo_126_0 rfl fun a E => lv E ok (y_load one_3 rfl (Holds.ro (At.sub 0 1 at14))) fun a E => lw E (y_geq rfl rfl) fun a E => mv E rfl fun a E => bsplit (decide (n_1 ≥ x7.From)) (fun hc18 => ?_) (fun hc18 => ?_)
 rotate_left
 ·replace hF := cond_f hc18 hF
  replace E := E.upd 19 hc18 rfl
  refine ls E fun a E => ls E fun a E => ls E fun a E => ls E fun a E => ls E fun a E => ls E fun a E => ls E fun a E => pf E rfl rfl fun a E => ?_
  refine wn <| c_if E rfl (fun h => by cases h) (fun _ => ?_)
  refine wp_skip <| b_norm <| t_norm <| c_region <| mv E rfl fun a E => lw E (y_add rfl rfl (InR.inc r5 (pL_InR hl_0) hc6)) fun a E => av E rfl fun a E => wpList_nil ?_
  obtain rfl := sj hF
  exact step_n ⟨ok, E.keep [0, 1, 5], (InR.inc r5 (pL_InR hl_0) hc6)⟩
 replace hF := cond_t hc18 hF
 replace E := E.upd 19 hc18 rfl
 refine mv E rfl fun a E => mv E rfl fun a E => mv E rfl fun a E => ?_
 obtain ⟨x19, e20, hF⟩ := bnd hF
 obtain ⟨b21, o22, es23, hl24, rr25, at26, yy27⟩ := idxAt sl_67 hl_0 e20 (P := Tryz.prog) (X := .tmp 21) (I := .tmp 22) (kd := .i64) (ev_of E rfl) (ev_of E rfl)
 obtain ⟨rfl, r28, r29⟩ := rr25
 refine lv E ok (yy27 _ _) fun a E => fv E fo_126_1 rfl fun a E => lv E ok (y_load one_3 rfl (Holds.ro (At.sub 1 1 at26))) fun a E => lw E (y_leq rfl rfl) fun a E => pt E rfl rfl fun a E => wn <| cf E rfl hF (fun hc30 hF => ?_) fun hc30 hF => ?_
 rotate_left
 ·refine wp_skip <| b_norm <| t_norm <| c_region <| mv E rfl fun a E => lw E (y_add rfl rfl (InR.inc r5 (pL_InR hl_0) hc6)) fun a E => av E rfl fun a E => wpList_nil ?_
  obtain rfl := sj hF
  exact step_n ⟨ok, E.keep [0, 1, 5], (InR.inc r5 (pL_InR hl_0) hc6)⟩
 refine sg <| aw E rfl fun a E => wp_ret <| b_ret <| t_ret ?_
 obtain rfl := sj hF
 exact so (sr ⟨rfl, ⟨ok, E.d, ⟨rv_t E rfl, trivial⟩⟩⟩)
def calqueref07_Trim_R (u : World) (m0 : Mem) (S : Segs) (r : (List UInt8)) (a : Act) (w : World) : Prop :=
 Ok u m0 S w ∧ a.defers = [] ∧ RVs Tryz.prog a w [.t 2 (.string (bs r))] ∧ r.length ≤ LIMS
theorem calqueref07_Trim_w (N : Nat) (s_0 : List UInt8) (ls_0 : s_0.length ≤ LIMS) {r : (List UInt8)} (hF : calqueref07_Trim N s_0 = some r) (hG : Glob u) (ok : Ok u m0 S w) :
  Calls Tryz.prog 182 [vs s_0].toArray w fun e w' => (e = .returned (.string (bs r)) ∧ Ok u m0 S w') ∧ r.length ≤ LIMS := by
 unfold calqueref07_Trim at hF
 refine en (calqueref07_Trim_R u m0 S) r Tryz.func182 rfl rfl rfl (by rintro a w ⟨ok, hd, hrv, h0⟩; exact c_ret2 [.t 2 (.string (bs r))] hd rfl hrv ⟨⟨rfl, ok⟩, h0⟩) fun fin a E => sg <| aw E rfl fun a E => wp_seq <| wp_block ?_
 obtain ⟨o2, hL, hF⟩ := bnd hF
 refine c_loop _ (fun (s : (List UInt8)) a w => Ok u m0 (S) w ∧ Env 20 a [(0, vs s)] ∧ s.length ≤ LIMS) (fun (b : ((List UInt8))) e a w => e = (.exit 0) ∧ Ok u m0 (S) w ∧ Env 20 a [(0, vs b)] ∧ b.length ≤ LIMS) ?_ ?_ N _ a w hL ⟨ok, E.keep [0], ls_0⟩
 rotate_left
 ·intro e a w _ hO
  obtain ⟨rfl, ok, E, l12⟩ := hO
  refine b_hit <| t_norm <| sg <| mv E rfl fun a E => aw E rfl fun a E => ?_
  refine wp_ret ?_
  exact fin hF ⟨ok, E.d, ⟨rv_t E rfl, trivial⟩, l12⟩
 rintro s_4 a w r ⟨ok, E, l5⟩ hF
 replace hF : calqueref07_Trim_b1 N s_4 = some r := hF
 unfold calqueref07_Trim_b1 at hF
 refine wp_seq <| sg <| mv E rfl fun a E => lw E (y_slen Tryz.underlying9 rfl) fun a E => lw E (y_gtr rfl rfl) fun a E => mv E rfl fun a E => bsplit (decide ((s_4.length : Int) > 0)) (fun hc6 => ?_) (fun hc6 => ?_)
 rotate_left
 ·replace hF := cond_f hc6 hF
  replace E := E.upd 6 hc6 rfl
  refine ls E fun a E => ls E fun a E => ls E fun a E => ls E fun a E => ls E fun a E => ls E fun a E => pf E rfl rfl fun a E => wpList_nil ?_
  refine t_norm <| c_if E rfl (fun h => by cases h) (fun _ => ?_)
  refine wp_exit <| t_exit ?_
  obtain rfl := sj hF
  exact so (⟨rfl, ⟨ok, E.keep [0], l5⟩⟩)
 replace hF := cond_t hc6 hF
 replace E := E.upd 6 hc6 rfl
 refine mv E rfl fun a E => mv E rfl fun a E => lw E (y_slen Tryz.underlying9 rfl) fun a E => lw E (y_sub rfl rfl (InR.dec (InR.len l5) (ir 0) hc6)) fun a E => ?_
 obtain ⟨c7, e8, hF⟩ := bnd hF
 refine lv E ok (y_index Tryz.underlying9 rfl rfl e8) fun a E => lw E (y_eql rfl rfl) fun a E => pt E rfl rfl fun a E => wn <| cf E rfl hF (fun hc9 hF => ?_) fun hc9 hF => ?_
 rotate_left
 ·refine wp_exit <| t_exit ?_
  obtain rfl := sj hF
  exact so (⟨rfl, ⟨ok, E.keep [0], l5⟩⟩)
 refine wp_skip <| t_norm <| wp_block <| c_region <| mv E rfl fun a E => mv E rfl fun a E => lw E (y_slen Tryz.underlying9 rfl) fun a E => lw E (y_sub rfl rfl (InR.dec (InR.len l5) (ir 0) hc6)) fun a E => ?_
 obtain ⟨s10, e11, hF⟩ := bnd hF
 refine lw E (y_sslice Tryz.underlying9 e11 rfl rfl ⟨_, rfl⟩) fun a E => av E rfl fun a E => wpList_nil <| b_norm ?_
 obtain rfl := sj hF
 exact step_n ⟨ok, E.keep [0], (Nat.le_trans (slc_len e11) l5)⟩
def calqueref07_Operand_R (u : World) (m0 : Mem) (S : Segs) (r : Int × Int) (a : Act) (w : World) : Prop :=
 Ok u m0 S w ∧ a.defers = [] ∧ RVs Tryz.prog a w [.t 4 (.int .i64 r.1), .t 5 (.int .i64 r.2)] ∧ InR .i64 r.1 ∧ InR .i64 r.2
theorem calqueref07_Operand_w (N : Nat) (s_0 : List UInt8) (ls_0 : s_0.length ≤ LIMS) (operand_1 : Int) (roperand_1 : InR .i64 operand_1) {r : Int × Int} (hF : calqueref07_Operand N s_0 operand_1 = some r) (hG : Glob u) (ok : Ok u m0 S w) :
  Calls Tryz.prog 167 [vs s_0, vi operand_1].toArray w fun e w' => (e = .returned (.tuple [(.int .i64 r.1), (.int .i64 r.2)].toArray) ∧ Ok u m0 S w') ∧ InR .i64 r.1 ∧ InR .i64 r.2 := by
 have hb0 := ok.base
 have le_m0 := Mem.le.refl m0
 unfold calqueref07_Operand at hF
 refine en (calqueref07_Operand_R u m0 S) r Tryz.func167 rfl rfl rfl (by rintro a w ⟨ok, hd, hrv, h0, h1⟩; exact c_ret2 [.t 4 (.int .i64 r.1), .t 5 (.int .i64 r.2)] hd rfl hrv ⟨⟨rfl, ok⟩, h0, h1⟩) fun fin a E => sg <| av E rfl fun a E => aw E rfl fun a E => wp_seq ?_
 refine c_region <| mv E rfl fun a E => ?_
 obtain ⟨r1, e2, hF⟩ := bnd hF
 refine l_call E go_77 rfl (calqueref07_Split_w N s_0 ls_0 e2 hG ok) rfl rfl ?_
 rintro _ w ⟨m3, vs4, rfl, hle, ok, h5⟩
 have le_m0 := le_m0.trans hle
 obtain ⟨rfl, l6, l7⟩ := h5
 refine ⟨_, rfl, fun a E => ?_⟩
 refine mv E rfl fun a E => lw E (y_extract rfl rfl) fun a E => lw E (y_extract rfl rfl) fun a E => l_alloc E ok zero_117 rfl rfl fun b8 a w E ok => l_storeB E ok 0 rfl rfl rfl inf_117 rfl rfl ⟨rfl, rfl, rfl, trivial⟩ rfl rfl fun w ok => aw E rfl fun a E => ?_
 refine wp_seq <| sg <| mv E rfl fun a E => lw E (y_not rfl) fun a E => wn <| cf E rfl hF (fun hc9 hF => ?_) fun hc9 hF => ?_
 ·refine sg <| av E rfl fun a E => aw E rfl fun a E => wp_ret <| t_ret ?_
  exact fin hF ⟨(ok.drop).down hb0 le_m0, E.d, ⟨rv_t E rfl, rv_t E rfl, trivial⟩, (ir 0), (ir 1)⟩
 refine wp_skip <| t_norm <| wp_seq <| sg <| mv E rfl fun a E => wn ?_
 refine wp_block <| sg <| lw E (y_eql rfl rfl) fun a E => aw E rfl fun a E => cf E rfl hF (fun hc10 hF => ?_) fun hc10 hF => ?_
 ·refine wp_seq <| sg <| fv E fo_117_2 rfl fun a E => ld E ok one_9 0 rfl rfl rfl fun a E => ?_
  obtain ⟨r11, e12, hF⟩ := bnd hF
  refine lc E go_110 rfl (calqueref07_Zero_w N r1.1.Frac l7 e12 hG ok) fun w ok a E => lw E (y_not rfl) fun a E => wn <| cf E rfl hF (fun hc13 hF => ?_) fun hc13 hF => ?_
  ·refine sg <| av E rfl fun a E => aw E rfl fun a E => wp_ret <| t_ret ?_
   refine b_ret <| t_ret ?_
   exact fin hF ⟨(ok.drop).down hb0 le_m0, E.d, ⟨rv_t E rfl, rv_t E rfl, trivial⟩, (ir 0), (ir 8)⟩
  refine wp_skip <| t_norm <| sg <| fv E fo_117_1 rfl fun a E => ld E ok one_9 0 rfl rfl rfl fun a E => ?_
  obtain ⟨r14, e15, hF⟩ := bnd hF
  refine l_call E go_146 rfl (calqueref07_Value_w N r1.1.Whole l6 e15 hG ok) rfl rfl ?_
  rintro _ w ⟨⟨rfl, ok⟩, r16⟩
  refine ⟨_, rfl, fun a E => ?_⟩
  refine av E rfl fun a E => aw E rfl fun a E => wp_ret <| b_ret <| t_ret ?_
  exact fin hF ⟨(ok.drop).down hb0 le_m0, E.d, ⟨rv_t E rfl, rv_t E rfl, trivial⟩, r16, (ir 0)⟩
 refine sg <| lw E (y_eql rfl rfl) fun a E => aw E rfl fun a E => cf E rfl hF (fun hc17 hF => ?_) fun hc17 hF => ?_
 ·refine sg <| fv E fo_117_1 rfl fun a E => ld E ok one_9 0 rfl rfl rfl fun a E => ?_
  obtain ⟨r18, e19, hF⟩ := bnd hF
  refine l_call E go_146 rfl (calqueref07_Value_w N r1.1.Whole l6 e19 hG ok) rfl rfl ?_
  rintro _ w ⟨⟨rfl, ok⟩, r20⟩
  refine ⟨_, rfl, fun a E => ?_⟩
  refine av E rfl fun a E => aw E rfl fun a E => wp_ret <| b_ret <| t_ret ?_
  exact fin hF ⟨(ok.drop).down hb0 le_m0, E.d, ⟨rv_t E rfl, rv_t E rfl, trivial⟩, r20, (ir 0)⟩
 refine sg <| lw E (y_eql rfl rfl) fun a E => aw E rfl fun a E => cf E rfl hF (fun hc21 hF => ?_) fun hc21 hF => ?_
 ·refine sg <| fv E fo_117_2 rfl fun a E => ld E ok one_9 0 rfl rfl rfl fun a E => lw E (y_slen Tryz.underlying9 rfl) fun a E => av E rfl fun a E => av E rfl fun a E => wpList_nil ?_
  refine t_norm <| wp_ret <| b_ret <| t_ret ?_
  exact fin hF ⟨(ok.drop).down hb0 le_m0, E.d, ⟨rv_t E rfl, rv_t E rfl, trivial⟩, (InR.len l7), (ir 0)⟩
 refine sg <| lw E (y_eql rfl rfl) fun a E => aw E rfl fun a E => cf E rfl hF (fun hc22 hF => ?_) fun hc22 hF => ?_
 ·refine sg <| fv E fo_117_2 rfl fun a E => ld E ok one_9 0 rfl rfl rfl fun a E => ?_
  obtain ⟨r23, e24, hF⟩ := bnd hF
  refine l_call E go_182 rfl (calqueref07_Trim_w N r1.1.Frac l7 e24 hG ok) rfl rfl ?_
  rintro _ w ⟨⟨rfl, ok⟩, l25⟩
  refine ⟨_, rfl, fun a E => ?_⟩
  refine lw E (y_slen Tryz.underlying9 rfl) fun a E => av E rfl fun a E => aw E rfl fun a E => wp_ret <| b_ret <| t_ret ?_
  exact fin hF ⟨(ok.drop).down hb0 le_m0, E.d, ⟨rv_t E rfl, rv_t E rfl, trivial⟩, (InR.len l25), (ir 0)⟩
 refine sg <| lw E (y_eql rfl rfl) fun a E => aw E rfl fun a E => cf E rfl hF (fun hc26 hF => ?_) fun hc26 hF => ?_
 ·refine sg <| fv E fo_117_2 rfl fun a E => ld E ok one_9 0 rfl rfl rfl fun a E => ?_
  obtain ⟨r27, e28, hF⟩ := bnd hF
  refine l_call E go_146 rfl (calqueref07_Value_w N r1.1.Frac l7 e28 hG ok) rfl rfl ?_
  rintro _ w ⟨⟨rfl, ok⟩, r29⟩
  refine ⟨_, rfl, fun a E => ?_⟩
  refine av E rfl fun a E => aw E rfl fun a E => wp_ret <| b_ret <| t_ret ?_
  exact fin hF ⟨(ok.drop).down hb0 le_m0, E.d, ⟨rv_t E rfl, rv_t E rfl, trivial⟩, r29, (ir 0)⟩
 refine sg <| lw E (y_eql rfl rfl) fun a E => aw E rfl fun a E => cf E rfl hF (fun hc30 hF => ?_) fun hc30 hF => ?_
 rotate_left
 ·refine wp_skip <| b_norm <| t_norm <| sg <| av E rfl fun a E => av E rfl fun a E => wpList_nil ?_
  refine t_norm <| wp_ret ?_
  exact fin hF ⟨(ok.drop).down hb0 le_m0, E.d, ⟨rv_t E rfl, rv_t E rfl, trivial⟩, (ir 0), (ir 1)⟩
 refine sg <| fv E fo_117_2 rfl fun a E => ld E ok one_9 0 rfl rfl rfl fun a E => ?_
 obtain ⟨r31, e32, hF⟩ := bnd hF
 refine l_call E go_182 rfl (calqueref07_Trim_w N r1.1.Frac l7 e32 hG ok) rfl rfl ?_
 rintro _ w ⟨⟨rfl, ok⟩, l33⟩
 refine ⟨_, rfl, fun a E => ?_⟩
 obtain ⟨r34, e35, hF⟩ := bnd hF
 refine l_call E go_146 rfl (calqueref07_Value_w N r31 l33 e35 hG ok) rfl rfl ?_
 rintro _ w ⟨⟨rfl, ok⟩, r36⟩
 refine ⟨_, rfl, fun a E => ?_⟩
 refine av E rfl fun a E => aw E rfl fun a E => wp_ret <| b_ret <| t_ret ?_
 exact fin hF ⟨(ok.drop).down hb0 le_m0, E.d, ⟨rv_t E rfl, rv_t E rfl, trivial⟩, r36, (ir 0)⟩
def calqueref08_Relation_R (u : World) (m0 : Mem) (S : Segs) (r : Bool) (a : Act) (w : World) : Prop :=
 Ok u m0 S w ∧ a.defers = [] ∧ RVs Tryz.prog a w [.t 4 (.bool r)]
theorem calqueref08_Relation_w (N : Nat) (vr_0 : List Value) (r_0 : Relation) (hr_0 : pRelation m0 vr_0 r_0) (number_1 : List UInt8) (lnumber_1 : number_1.length ≤ LIMS) {r : Bool} (hF : calqueref08_Relation N r_0 number_1 = some r) (hG : Glob u) (ok : Ok u m0 S w) :
  Calls Tryz.prog 152 [.agg vr_0.toArray, vs number_1].toArray w fun e w' => (e = .returned (.bool r) ∧ Ok u m0 S w') := by
 obtain ⟨c3, rfl, r1, r2, h4⟩ := hr_0
 unfold calqueref08_Relation at hF
 refine en (calqueref08_Relation_R u m0 S) r Tryz.func152 rfl rfl rfl (by rintro a w ⟨ok, hd, hrv⟩; exact c_ret2 [.t 4 (.bool r)] hd rfl hrv ⟨rfl, ok⟩) fun fin a E => sg <| l_box E ok rfl rfl rfl fun b5 a w E ok => aw E rfl fun a E => wp_seq ?_
 refine c_region <| mv E rfl fun a E => fv E fo_69_0 rfl fun a E => ld E ok one_3 0 rfl rfl rfl fun a E => ?_
 obtain ⟨r6, e7, hF⟩ := bnd hF
 refine l_call E go_167 rfl (calqueref07_Operand_w N number_1 lnumber_1 r_0.Operand r1 e7 hG ok) rfl rfl ?_
 rintro _ w ⟨⟨rfl, ok⟩, r8, r9⟩
 refine ⟨_, rfl, fun a E => ?_⟩
 refine mv E rfl fun a E => lw E (y_extract rfl rfl) fun a E => lw E (y_extract rfl rfl) fun a E => av E rfl fun a E => aw E rfl fun a E => wp_seq ?_
 refine sg <| mv E rfl fun a E => lw E (y_neq rfl rfl) fun a E => wn <| cf E rfl hF (fun hc10 hF => ?_) fun hc10 hF => ?_
 ·refine sg <| fv E fo_69_2 rfl fun a E => ld E ok one_4 0 rfl rfl rfl fun a E => aw E rfl fun a E => wp_ret ?_
  refine t_ret ?_
  exact fin hF ⟨ok.drop, E.d, ⟨rv_t E rfl, trivial⟩⟩
 refine wp_skip <| t_norm <| wp_seq <| sg <| fv E fo_69_1 rfl fun a E => ld E ok one_3 0 rfl rfl rfl fun a E => lw E (y_neq rfl rfl) fun a E => ?_
 refine wn ?_
 obtain ⟨o11, hJ, hF⟩ := bnd hF
 refine c_mono (Q' := fun e a w => e = .normal ∧ Ok u m0 ([(b5, oc 69 [vi r_0.Operand, vi r_0.Mod, vb r_0.Not, c3])] :: S) w ∧ Env 32 a [(2, vp b5), (5, vi o11)] ∧ InR .i64 o11) ?_ ?_
 ·replace hF := hJ
  clear hJ
  refine cf E rfl hF (fun hc13 hF => ?_) fun hc13 hF => ?_
  rotate_left
  ·refine wp_skip ?_
   obtain rfl := sj hF
   exact ⟨rfl, ⟨ok, E.keep [2, 5], r8⟩⟩
  refine c_region <| mv E rfl fun a E => fv E fo_69_1 rfl fun a E => ld E ok one_3 0 rfl rfl rfl fun a E => ?_
  obtain ⟨q14, e15, hF⟩ := bnd hF
  refine lw E (y_rm rfl rfl e15) fun a E => av E rfl fun a E => wpList_nil ?_
  obtain rfl := sj hF
  exact ⟨rfl, ⟨ok, E.keep [2, 5], (rm_InR e15 r8)⟩⟩
 clear hJ
 intro e a w hO
 obtain ⟨rfl, ok, E, r16⟩ := hO
 refine t_norm <| wp_seq <| c_draw (by kernel_rfl) (by kernel_rfl) ok <| qv E (y_fieldAddr fo_69_3 rfl) fun a E => qv E (y_load one_67 rfl (Holds.own 0 rfl rfl)) fun a E => qv E (y_move rfl) fun a E => ?_
 obtain ⟨r17, e18, hF⟩ := bnd hF
 refine q_call E go_121 rfl (fun w ok => (calqueref08_Inside_w N _ r_0.Spans h4 o11 r16 e18 hG ok).mono (fun _ _ h => h)) rfl rfl fun a E => qv E (y_fieldAddr fo_69_2 rfl) fun a E => qv E (y_load one_4 rfl (Holds.own 0 rfl rfl)) fun a E => qv E (y_bneq Tryz.underlying4 rfl rfl) fun a E => qv E (y_assign rfl) fun a E => wpQuiet_nil ?_
 intro w ok
 refine t_norm <| wp_ret ?_
 exact fin hF ⟨ok.drop, E.d, ⟨rv_t E rfl, trivial⟩⟩
def calqueref10_vector_R (u : World) (m0 : Mem) (S : Segs) (r : (List UInt8)) (a : Act) (w : World) : Prop :=
 Ok u m0 S w ∧ a.defers = [] ∧ RVs Tryz.prog a w [.t 6 (.string (bs r))] ∧ r.length ≤ LIMS
theorem calqueref10_vector_w (N : Nat) (vl_0 : Value) (l_0 : List (Relation)) (hl_0 : (pL 4 pRelation) m0 [vl_0] l_0) (number_1 : List UInt8) (lnumber_1 : number_1.length ≤ LIMS) (first_2 : Bool) {r : (List UInt8)} (hF : calqueref10_vector N l_0 number_1 first_2 = some r) (hG : Glob u) (ok : Ok u m0 S w) :
  Calls Tryz.prog 130 [vl_0, vs number_1, vb first_2].toArray w fun e w' => (e = .returned (.string (bs r)) ∧ Ok u m0 S w') ∧ r.length ≤ LIMS := by
 unfold calqueref10_vector at hF
 refine en (calqueref10_vector_R u m0 S) r Tryz.func130 rfl rfl rfl (by rintro a w ⟨ok, hd, hrv, h0⟩; exact c_ret2 [.t 6 (.string (bs r))] hd rfl hrv ⟨⟨rfl, ok⟩, h0⟩) fun fin a E => sg <| aw E rfl fun a E => sg ?_
 refine aw E rfl fun a E => wp_seq <| sg <| av E rfl fun a E => wpList_nil ?_
 refine t_norm <| wp_block ?_
 obtain ⟨o3, hL, hF⟩ := bnd hF
 refine c_loop _ (fun (s : (List UInt8) × Int) a w => Ok u m0 (S) w ∧ Env 33 a [(0, vl_0), (1, vs number_1), (2, vb first_2), (7, vs s.1), (8, vi s.2)] ∧ s.1.length ≤ LIMS ∧ InR .i64 s.2) (fun (b : ((List UInt8))) e a w => e = (.exit 0) ∧ Ok u m0 (S) w ∧ Env 33 a [(7, vs b)] ∧ b.length ≤ LIMS) ?_ ?_ N _ a w hL ⟨ok, E.keep [0, 1, 2, 7, 8], (show ([] : List UInt8).length ≤ LIMS by decide), (ir 0)⟩
 rotate_left
 ·intro e a w _ hO
  obtain ⟨rfl, ok, E, l47⟩ := hO
  refine b_hit <| t_norm <| sg <| mv E rfl fun a E => aw E rfl fun a E => ?_
  refine wp_ret ?_
  exact fin hF ⟨ok, E.d, ⟨rv_t E rfl, trivial⟩, l47⟩
 rintro ⟨s_6, i_7⟩ a w r ⟨ok, E, l8, r9⟩ hF
 replace hF : calqueref10_vector_b1 N l_0 number_1 first_2 s_6 i_7 = some r := hF
 unfold calqueref10_vector_b1 at hF
 refine wp_seq <| sg <| mv E rfl fun a E => mv E rfl fun a E => lv E ok (y_lenL sl_66 hl_0 rfl) fun a E => lw E (y_lss rfl rfl) fun a E => wpList_nil ?_
 refine t_norm <| cf E rfl hF (fun hc10 hF => ?_) fun hc10 hF => ?_
 rotate_left
 ·refine wp_exit <| t_exit ?_
  obtain rfl := sj hF
  exact so (⟨rfl, ⟨ok, E.keep [7], l8⟩⟩)
 refine wp_skip <| t_norm <| wp_seq <| wp_block <| wp_seq <| sg <| mv E rfl fun a E => ?_
 refine mv E rfl fun a E => ?_
 obtain ⟨x11, e12, hF⟩ := bnd hF
 obtain ⟨b13, o14, es15, hl16, rr17, at18, yy19⟩ := idxAt sl_66 hl_0 e12 (P := Tryz.prog) (X := .tmp 15) (I := .tmp 16) (kd := .i64) (ev_of E rfl) (ev_of E rfl)
 obtain ⟨c22, rfl, r20, r21, h23⟩ := rr17
 refine lv E ok (yy19 _ _) fun a E => lv E ok (y_loadAgg (cs := [vi x11.Operand, vi x11.Mod, vb x11.Not, c22]) agg_69 rfl rfl (Holds.ro at18)) fun a E => ?_
 obtain ⟨r24, e25, hF⟩ := bnd hF
 refine lc E go_151 rfl (calqueref10_whole_w N _ x11 ⟨_, rfl, r20, r21, h23⟩ e25 hG ok) fun w ok a E => mv E rfl fun a E => lw E (y_bneq Tryz.underlying4 rfl rfl) fun a E => wn <| cf E rfl hF (fun hc26 hF => ?_) fun hc26 hF => ?_
 ·refine wp_exit <| t_exit <| b_hit <| t_norm <| c_region <| mv E rfl fun a E => lw E (y_add rfl rfl (InR.inc r9 (pL_InR hl_0) hc10)) fun a E => av E rfl fun a E => ?_
  refine wpList_nil ?_
  obtain rfl := sj hF
  exact step_n ⟨ok, E.keep [0, 1, 2, 7, 8], l8, (InR.inc r9 (pL_InR hl_0) hc10)⟩
 refine wp_skip <| t_norm <| sg <| mv E rfl fun a E => mv E rfl fun a E => ?_
 obtain ⟨x27, e28, hF⟩ := bnd hF
 obtain ⟨b29, o30, es31, hl32, rr33, at34, yy35⟩ := idxAt sl_66 hl_0 e28 (P := Tryz.prog) (X := .tmp 22) (I := .tmp 23) (kd := .i64) (ev_of E rfl) (ev_of E rfl)
 obtain ⟨c38, rfl, r36, r37, h39⟩ := rr33
 refine lv E ok (yy35 _ _) fun a E => lv E ok (y_loadAgg (cs := [vi x27.Operand, vi x27.Mod, vb x27.Not, c38]) agg_69 rfl rfl (Holds.ro at34)) fun a E => mv E rfl fun a E => ?_
 obtain ⟨r40, e41, hF⟩ := bnd hF
 refine lc E go_152 rfl (calqueref08_Relation_w N _ x27 ⟨_, rfl, r36, r37, h39⟩ number_1 lnumber_1 e41 hG ok) fun w ok a E => wn <| cf E rfl hF (fun hc42 hF => ?_) fun hc42 hF => ?_
 ·refine c_region <| mv E rfl fun a E => ?_
  obtain ⟨s43, e44, hF⟩ := bnd hF
  refine lw E (y_cat rfl rfl e44) fun a E => av E rfl fun a E => wpList_nil <| b_norm <| t_norm <| c_region <| mv E rfl fun a E => lw E (y_add rfl rfl (InR.inc r9 (pL_InR hl_0) hc10)) fun a E => ?_
  refine av E rfl fun a E => wpList_nil ?_
  obtain rfl := sj hF
  exact step_n ⟨ok, E.keep [0, 1, 2, 7, 8], (cat_len e44), (InR.inc r9 (pL_InR hl_0) hc10)⟩
 refine c_region <| mv E rfl fun a E => ?_
 obtain ⟨s45, e46, hF⟩ := bnd hF
 refine lw E (y_cat rfl rfl e46) fun a E => av E rfl fun a E => wpList_nil <| b_norm <| t_norm <| c_region <| mv E rfl fun a E => lw E (y_add rfl rfl (InR.inc r9 (pL_InR hl_0) hc10)) fun a E => ?_
 refine av E rfl fun a E => wpList_nil ?_
 obtain rfl := sj hF
 exact step_n ⟨ok, E.keep [0, 1, 2, 7, 8], (cat_len e46), (InR.inc r9 (pL_InR hl_0) hc10)⟩
def calqueref10_place_R (u : World) (m0 : Mem) (S : Segs) (r : Int) (a : Act) (w : World) : Prop :=
 Ok u m0 S w ∧ a.defers = [] ∧ RVs Tryz.prog a w [.t 4 (.int .i64 r)] ∧ InR .i64 r
theorem calqueref10_place_w (N : Nat) (vl_0 : Value) (l_0 : List (List UInt8)) (hl_0 : (pL 1 pS) m0 [vl_0] l_0) (s_1 : List UInt8) (ls_1 : s_1.length ≤ LIMS) {r : Int} (hF : calqueref10_place N l_0 s_1 = some r) (hG : Glob u) (ok : Ok u m0 S w) :
  Calls Tryz.prog 131 [vl_0, vs s_1].toArray w fun e w' => (e = .returned (.int .i64 r) ∧ Ok u m0 S w') ∧ InR .i64 r := by
 unfold calqueref10_place at hF
 refine en (calqueref10_place_R u m0 S) r Tryz.func131 rfl rfl rfl (by rintro a w ⟨ok, hd, hrv, h0⟩; exact c_ret2 [.t 4 (.int .i64 r)] hd rfl hrv ⟨⟨rfl, ok⟩, h0⟩) fun fin a E => sg <| aw E rfl fun a E => wp_seq <| wp_seq ?_
 refine c_region <| aw E rfl fun a E => wp_block ?_
 obtain ⟨o2, hL, hF⟩ := bnd hF
 refine c_loop _ (fun (s : Int) a w => Ok u m0 (S) w ∧ Env 19 a [(0, vl_0), (1, vs s_1), (5, vi s)] ∧ InR .i64 s) (fun (b : (Unit ⊕ Int)) e a w => (Sum.elim (fun b18 => e = (.exit 0) ∧ Ok u m0 (S) w ∧ Env 19 a []) (fun b19 => e = .ret ∧ calqueref10_place_R u m0 S b19 a w)) b) ?_ ?_ N _ a w hL ⟨ok, E.keep [0, 1, 5], (ir 0)⟩
 rotate_left
 ·intro e a w _ hO
  rcases o2 with o2 | o2
  rotate_left
  ·replace hF := elim_r hF
   obtain ⟨rfl, hret⟩ := hO
   refine b_ret <| t_ret ?_
   exact fin hF hret
  replace hF := elim_l hF
  obtain ⟨rfl, ok, E⟩ := hO
  refine b_hit <| t_norm <| sg <| aw E rfl fun a E => wp_ret ?_
  exact fin hF ⟨ok, E.d, ⟨rv_t E rfl, trivial⟩, (ir (-1))⟩
 rintro i_4 a w r ⟨ok, E, r5⟩ hF
 replace hF : calqueref10_place_b1 N l_0 s_1 i_4 = some r := hF
 unfold calqueref10_place_b1 at hF
 refine wp_seq <| sg <| mv E rfl fun a E => mv E rfl fun a E => lv E ok (y_lenL sl_147 hl_0 rfl) fun a E => lw E (y_lss rfl rfl) fun a E => wpList_nil ?_
 refine t_norm <| cf E rfl hF (fun hc6 hF => ?_) fun hc6 hF => ?_
 rotate_left
 ·refine wp_exit <| t_exit ?_
  obtain rfl := sj hF
  exact so (sl ⟨rfl, ⟨ok, E.keep []⟩⟩)
 refine wp_skip <| t_norm <| wp_seq <| wp_block <| sg <| mv E rfl fun a E => mv E rfl fun a E => ?_
 obtain ⟨x7, e8, hF⟩ := bnd hF
 obtain ⟨b9, o10, es11, hl12, rr13, at14, yy15⟩ := idxAt sl_147 hl_0 e8 (P := Tryz.prog) (X := .tmp 12) (I := .tmp 13) (kd := .i64) (ev_of E rfl) (ev_of E rfl)
 obtain ⟨rfl, l16⟩ := rr13
 refine lv E ok (yy15 _ _) fun a E => lv E ok (y_load one_9 rfl (Holds.ro at14)) fun a E => mv E rfl fun a E => lw E (y_seql rfl rfl) fun a E => wn <| cf E rfl hF (fun hc17 hF => ?_) fun hc17 hF => ?_
 rotate_left
 ·refine wp_skip <| b_norm <| t_norm <| c_region <| mv E rfl fun a E => lw E (y_add rfl rfl (InR.inc r5 (pL_InR hl_0) hc6)) fun a E => av E rfl fun a E => wpList_nil ?_
  obtain rfl := sj hF
  exact step_n ⟨ok, E.keep [0, 1, 5], (InR.inc r5 (pL_InR hl_0) hc6)⟩
 refine sg <| mv E rfl fun a E => aw E rfl fun a E => wp_ret <| b_ret ?_
 refine t_ret ?_
 obtain rfl := sj hF
 exact so (sr ⟨rfl, ⟨ok, E.d, ⟨rv_t E rfl, trivial⟩, r5⟩⟩)
def calqueref10_wholes_R (u : World) (m0 : Mem) (S : Segs) (r : (List (List UInt8))) (a : Act) (w : World) : Prop :=
 ∃ m1 v0, m0.le m1 ∧ Ok u m1 S w ∧ a.defers = [] ∧ RVs Tryz.prog a w [.t 2 v0] ∧ (pL 1 pS) m1 [v0] r
theorem calqueref10_wholes_w (N : Nat) (vl_0 : Value) (l_0 : List (Relation)) (hl_0 : (pL 4 pRelation) m0 [vl_0] l_0) {r : (List (List UInt8))} (hF : calqueref10_wholes N l_0 = some r) (hG : Glob u) (ok : Ok u m0 S w) :
  Calls Tryz.prog 98 [vl_0].toArray w fun e w' => ∃ m1 v0, e = .returned v0 ∧ m0.le m1 ∧ Ok u m1 S w' ∧ (pL 1 pS) m1 [v0] r := by
 have le_m0 := Mem.le.refl m0
 unfold calqueref10_wholes at hF
 refine en (calqueref10_wholes_R u m0 S) r Tryz.func98 rfl rfl rfl (by rintro a w ⟨m1, v0, hle, ok, hd, hrv, h0⟩; exact c_ret2 [.t 2 v0] hd rfl hrv ⟨m1, v0, rfl, hle, ok, h0⟩) fun fin a E => sg <| aw E rfl fun a E => sg ?_
 refine av E rfl fun a E => aw E rfl fun a E => wp_seq <| sg <| av E rfl fun a E => ?_
 refine wn <| wp_block ?_
 obtain ⟨M9, ok, h10⟩ := nilrow (e := 9) (k := 1) (R := pS) ok
 obtain ⟨M11, ok, h12⟩ := nilrow (e := 9) (k := 1) (R := pS) ok
 obtain ⟨o13, hL, hF⟩ := bnd hF
 refine c_loop _ (fun (s : (List (List UInt8)) × (List (List UInt8)) × Int) a w => ∃ c14 M15 c17 M18, Ok u m0 (M18 :: M15 :: S) w ∧ Env 29 a [(0, vl_0), (3, c14), (4, c17), (5, vi s.2.2)] ∧ ORow 9 1 pS m0 c14 s.1 M15 ∧ ORow 9 1 pS m0 c17 s.2.1 M18 ∧ InR .i64 s.2.2) (fun (b : ((List (List UInt8)))) e a w => e = (.exit 0) ∧ ∃ c71 M72, Ok u m0 (M72 :: S) w ∧ Env 29 a [(4, c71)] ∧ ORow 9 1 pS m0 c71 b M72) ?_ ?_ N _ a w hL ⟨(Value.slice none 0 0), M9, (Value.slice none 0 0), M11, ok, E.keep [0, 3, 4, 5], h10, h12, (ir 0)⟩
 rotate_left
 ·intro e a w _ hO
  obtain ⟨rfl, c66, M67, ok, E, h68⟩ := hO
  refine b_hit <| t_norm <| sg <| mv E rfl fun a E => aw E rfl fun a E => ?_
  refine wp_ret ?_
  obtain ⟨m69, hle, ok, hfz⟩ := (ok.frs 0 rfl).freeze
  have h70 := ORow.froz mS h68 hle hfz (by decide)
  have le_m0 := le_m0.trans hle
  have hl_0 := (mL mRelation).up hle hl_0
  exact fin hF ⟨m69, c66, le_m0, ok, E.d, ⟨rv_t E rfl, trivial⟩, h70⟩
 rintro ⟨seen_21, out_22, n_23⟩ a w r ⟨c24, M25, c27, M28, ok, E, h26, h29, r30⟩ hF
 replace hF : calqueref10_wholes_b1 N l_0 seen_21 out_22 n_23 = some r := hF
 unfold calqueref10_wholes_b1 at hF
 refine wp_seq <| sg <| mv E rfl fun a E => lw E (y_leq rfl rfl) fun a E => wn <| cf E rfl hF (fun hc31 hF => ?_) fun hc31 hF => ?_
 rotate_left
 ·refine wp_exit <| t_exit ?_
  obtain rfl := sj hF
  exact so (⟨rfl, ⟨c27, M28, (ok.pk 2 [0] rfl (by decide)), E.keep [4], h29⟩⟩)
 refine wp_skip <| t_norm <| wp_seq <| wp_block <| sg <| mv E rfl fun a E => mv E rfl fun a E => ?_
 obtain ⟨r32, e33, hF⟩ := bnd hF
 refine l_call E go_72 rfl (calqueref10_decimal_w N n_23 r30 e33 hG ok) rfl rfl ?_
 rintro _ w ⟨⟨rfl, ok⟩, l34⟩
 refine ⟨_, rfl, fun a E => ?_⟩
 obtain ⟨r35, e36, hF⟩ := bnd hF
 refine l_call E go_130 rfl (calqueref10_vector_w N _ l_0 hl_0 r32 l34 true e36 hG ok) rfl rfl ?_
 rintro _ w ⟨⟨rfl, ok⟩, l37⟩
 refine ⟨_, rfl, fun a E => ?_⟩
 refine aw E rfl fun a E => sg <| mv E rfl fun a E => mv E rfl fun a E => ?_
 obtain ⟨r43, e44, hF⟩ := bnd hF
 obtain ⟨m38, hle40, ok39, hfz41⟩ := (ok.frs 1 rfl).freeze
 have h42 := ORow.froz mS h26 hle40 hfz41 (by decide)
 refine l_call E go_131 rfl (calqueref10_place_w N _ seen_21 h42 r35 l37 e44 hG ok39) rfl rfl ?_
 rintro _ w ⟨⟨rfl, okz⟩, r45⟩
 replace ok := (Ok.thawAt 1 rfl ok hle40 hfz41 okz)
 refine ⟨_, rfl, fun a E => ?_⟩
 refine lw E (y_lss rfl rfl) fun a E => wn <| cf E rfl hF (fun hc46 hF => ?_) fun hc46 hF => ?_
 rotate_left
 ·refine wp_skip <| b_norm <| t_norm <| c_region <| mv E rfl fun a E => lw E (y_addw rfl rfl) fun a E => av E rfl fun a E => wpList_nil ?_
  obtain rfl := sj hF
  exact step_n ⟨c24, M25, c27, M28, ok, E.keep [0, 3, 4, 5], h26, h29, (InR.wrap _ _)⟩
 refine c_region <| mv E rfl fun a E => mv E rfl fun a E => l_slit (R := pS) (xo := [.tmp 20]) (xs := ([r35] : List (List UInt8))) E ok sl_147 zero_9 rfl ⟨⟨_, rfl, rfl, (pS_mk l37)⟩, trivial⟩ rfl rfl rfl rfl fun c47 M48 a w E ok h49 => ?_
 obtain ⟨l50, e51, hF⟩ := bnd hF
 refine l_app (R := pS) E ok 2 mS sl_147 Tryz.underlying147 rfl h26 (SrcOK.ofRow h49 0 rfl ok) e51 ⟨_, zero_9, rfl⟩ rfl rfl rfl rfl fun c52 M53 a w E ok h54 => mv E rfl fun a E => mv E rfl fun a E => ?_
 obtain ⟨r55, e56, hF⟩ := bnd hF
 refine l_call E go_72 rfl (calqueref10_decimal_w N n_23 r30 e56 hG ok) rfl rfl ?_
 rintro _ w ⟨⟨rfl, ok⟩, l57⟩
 refine ⟨_, rfl, fun a E => ?_⟩
 refine l_slit (R := pS) (xo := [.tmp 25]) (xs := ([r55] : List (List UInt8))) E ok sl_147 zero_9 rfl ⟨⟨_, rfl, rfl, (pS_mk l57)⟩, trivial⟩ rfl rfl rfl rfl fun c58 M59 a w E ok h60 => ?_
 obtain ⟨l61, e62, hF⟩ := bnd hF
 refine l_app (R := pS) E ok 2 mS sl_147 Tryz.underlying147 rfl h29 (SrcOK.ofRow h60 0 rfl ok) e62 ⟨_, zero_9, rfl⟩ rfl rfl rfl rfl fun c63 M64 a w E ok h65 => av E rfl fun a E => av E rfl fun a E => wpList_nil <| b_norm <| t_norm <| c_region <| mv E rfl fun a E => ?_
 refine lw E (y_addw rfl rfl) fun a E => av E rfl fun a E => wpList_nil ?_
 obtain rfl := sj hF
 exact step_n ⟨c52, M53, c63, M64, (ok.pk 4 [2, 3] rfl (by decide)), E.keep [0, 3, 4, 5], h54, h65, (InR.wrap _ _)⟩
def calqueref10_padded_R (u : World) (m0 : Mem) (S : Segs) (r : (List UInt8)) (a : Act) (w : World) : Prop :=
 Ok u m0 S w ∧ a.defers = [] ∧ RVs Tryz.prog a w [.t 6 (.string (bs r))] ∧ r.length ≤ LIMS
theorem calqueref10_padded_w (N : Nat) (n_0 : Int) (rn_0 : InR .i64 n_0) (width_1 : Int) (rwidth_1 : InR .i64 width_1) (zeros_2 : Int) (rzeros_2 : InR .i64 zeros_2) {r : (List UInt8)} (hF : calqueref10_padded N n_0 width_1 zeros_2 = some r) (hG : Glob u) (ok : Ok u m0 S w) :
  Calls Tryz.prog 132 [vi n_0, vi width_1, vi zeros_2].toArray w fun e w' => (e = .returned (.string (bs r)) ∧ Ok u m0 S w') ∧ r.length ≤ LIMS := by
 unfold calqueref10_padded at hF
 refine en (calqueref10_padded_R u m0 S) r Tryz.func132 rfl rfl rfl (by rintro a w ⟨ok, hd, hrv, h0⟩; exact c_ret2 [.t 6 (.string (bs r))] hd rfl hrv ⟨⟨rfl, ok⟩, h0⟩) fun fin a E => sg <| aw E rfl fun a E => sg ?_
 refine mv E rfl fun a E => ?_
 obtain ⟨r1, e2, hF⟩ := bnd hF
 refine l_call E go_72 rfl (calqueref10_decimal_w N n_0 rn_0 e2 hG ok) rfl rfl ?_
 rintro _ w ⟨⟨rfl, ok⟩, l3⟩
 refine ⟨_, rfl, fun a E => ?_⟩
 refine aw E rfl fun a E => wp_seq <| wp_block ?_
 obtain ⟨o5, hL, hF⟩ := bnd hF
 refine c_loop _ (fun (s : (List UInt8)) a w => Ok u m0 (S) w ∧ Env 25 a [(1, vi width_1), (2, vi zeros_2), (7, vs s)] ∧ s.length ≤ LIMS) (fun (b : ((List UInt8))) e a w => e = (.exit 0) ∧ Ok u m0 (S) w ∧ Env 25 a [(2, vi zeros_2), (7, vs b)] ∧ b.length ≤ LIMS) ?_ ?_ N _ a w hL ⟨ok, E.keep [1, 2, 7], l3⟩
 ·rintro s_7 a w r ⟨ok, E, l8⟩ hF
  replace hF : calqueref10_padded_b1 N width_1 s_7 = some r := hF
  unfold calqueref10_padded_b1 at hF
  refine wp_seq <| sg <| mv E rfl fun a E => lw E (y_slen Tryz.underlying9 rfl) fun a E => mv E rfl fun a E => lw E (y_lss rfl rfl) fun a E => wpList_nil ?_
  refine t_norm <| cf E rfl hF (fun hc9 hF => ?_) fun hc9 hF => ?_
  rotate_left
  ·refine wp_exit <| t_exit ?_
   obtain rfl := sj hF
   exact so (⟨rfl, ⟨ok, E.keep [2, 7], l8⟩⟩)
  refine wp_skip <| t_norm <| wp_block <| c_region <| mv E rfl fun a E => ?_
  obtain ⟨s10, e11, hF⟩ := bnd hF
  refine lw E (y_cat rfl rfl e11) fun a E => av E rfl fun a E => wpList_nil <| b_norm ?_
  obtain rfl := sj hF
  exact step_n ⟨ok, E.keep [1, 2, 7], (cat_len e11)⟩
 intro e a w _ hO
 obtain ⟨rfl, ok, E, l12⟩ := hO
 refine b_hit <| t_norm <| wp_seq <| sg <| aw E rfl fun a E => ?_
 refine wp_block ?_
 obtain ⟨o15, hL, hF⟩ := bnd hF
 refine c_loop _ (fun (s : (List UInt8) × Int) a w => Ok u m0 (S) w ∧ Env 25 a [(2, vi zeros_2), (7, vs s.1), (8, vi s.2)] ∧ s.1.length ≤ LIMS ∧ InR .i64 s.2) (fun (b : ((List UInt8))) e a w => e = (.exit 2) ∧ Ok u m0 (S) w ∧ Env 25 a [(7, vs b)] ∧ b.length ≤ LIMS) ?_ ?_ N _ a w hL ⟨ok, E.keep [2, 7, 8], l12, (ir 0)⟩
 rotate_left
 ·intro e a w _ hO
  obtain ⟨rfl, ok, E, l25⟩ := hO
  refine b_hit <| t_norm <| sg <| mv E rfl fun a E => aw E rfl fun a E => ?_
  refine wp_ret ?_
  exact fin hF ⟨ok, E.d, ⟨rv_t E rfl, trivial⟩, l25⟩
 rintro ⟨s_18, i_19⟩ a w r ⟨ok, E, l20, r21⟩ hF
 replace hF : calqueref10_padded_b2 N zeros_2 s_18 i_19 = some r := hF
 unfold calqueref10_padded_b2 at hF
 refine wp_seq <| sg <| mv E rfl fun a E => mv E rfl fun a E => lw E (y_lss rfl rfl) fun a E => wn ?_
 refine cf E rfl hF (fun hc22 hF => ?_) fun hc22 hF => ?_
 rotate_left
 ·refine wp_exit <| t_exit ?_
  obtain rfl := sj hF
  exact so (⟨rfl, ⟨ok, E.keep [7], l20⟩⟩)
 refine wp_skip <| t_norm <| wp_seq <| wp_block <| c_region <| mv E rfl fun a E => ?_
 obtain ⟨s23, e24, hF⟩ := bnd hF
 refine lw E (y_cat rfl rfl e24) fun a E => av E rfl fun a E => wpList_nil <| b_norm <| t_norm <| c_region <| mv E rfl fun a E => lw E (y_add rfl rfl (InR.inc r21 rzeros_2 hc22)) fun a E => ?_
 refine av E rfl fun a E => wpList_nil ?_
 obtain rfl := sj hF
 exact step_n ⟨ok, E.keep [2, 7, 8], (cat_len e24), (InR.inc r21 rzeros_2 hc22)⟩
def calqueref10_fractions_R (u : World) (m0 : Mem) (S : Segs) (r : (List (List UInt8))) (a : Act) (w : World) : Prop :=
 ∃ m1 v0, m0.le m1 ∧ Ok u m1 S w ∧ a.defers = [] ∧ RVs Tryz.prog a w [.t 2 v0] ∧ (pL 1 pS) m1 [v0] r
theorem calqueref10_fractions_w (N : Nat) (vl_0 : Value) (l_0 : List (Relation)) (hl_0 : (pL 4 pRelation) m0 [vl_0] l_0) {r : (List (List UInt8))} (hF : calqueref10_fractions N l_0 = some r) (hG : Glob u) (ok : Ok u m0 S w) :
  Calls Tryz.prog 99 [vl_0].toArray w fun e w' => ∃ m1 v0, e = .returned v0 ∧ m0.le m1 ∧ Ok u m1 S w' ∧ (pL 1 pS) m1 [v0] r := by
 have le_m0 := Mem.le.refl m0
 unfold calqueref10_fractions at hF
 refine en (calqueref10_fractions_R u m0 S) r Tryz.func99 rfl rfl rfl (by rintro a w ⟨m1, v0, hle, ok, hd, hrv, h0⟩; exact c_ret2 [.t 2 v0] hd rfl hrv ⟨m1, v0, rfl, hle, ok, h0⟩) fun fin a E => sg <| aw E rfl fun a E => sg ?_
 refine av E rfl fun a E => aw E rfl fun a E => wp_seq <| sg <| av E rfl fun a E => ?_
 refine wn <| wp_block ?_
 obtain ⟨M9, ok, h10⟩ := nilrow (e := 9) (k := 1) (R := pS) ok
 obtain ⟨M11, ok, h12⟩ := nilrow (e := 9) (k := 1) (R := pS) ok
 obtain ⟨o13, hL, hF⟩ := bnd hF
 refine c_loop _ (fun (s : (List (List UInt8)) × (List (List UInt8)) × Int) a w => ∃ c14 M15 c17 M18, Ok u m0 (M18 :: M15 :: S) w ∧ Env 106 a [(0, vl_0), (3, c14), (4, c17), (5, vi s.2.2)] ∧ ORow 9 1 pS m0 c14 s.1 M15 ∧ ORow 9 1 pS m0 c17 s.2.1 M18 ∧ InR .i64 s.2.2) (fun (b : ((List (List UInt8)))) e a w => e = (.exit 0) ∧ ∃ c284 M285, Ok u m0 (M285 :: S) w ∧ Env 106 a [(4, c284)] ∧ ORow 9 1 pS m0 c284 b M285) ?_ ?_ N _ a w hL ⟨(Value.slice none 0 0), M9, (Value.slice none 0 0), M11, ok, E.keep [0, 3, 4, 5], h10, h12, (ir 0)⟩
 rotate_left
 ·intro e a w _ hO
  obtain ⟨rfl, c279, M280, ok, E, h281⟩ := hO
  refine b_hit <| t_norm <| sg <| mv E rfl fun a E => aw E rfl fun a E => ?_
  refine wp_ret ?_
  obtain ⟨m282, hle, ok, hfz⟩ := (ok.frs 0 rfl).freeze
  have h283 := ORow.froz mS h281 hle hfz (by decide)
  have le_m0 := le_m0.trans hle
  have hl_0 := (mL mRelation).up hle hl_0
  exact fin hF ⟨m282, c279, le_m0, ok, E.d, ⟨rv_t E rfl, trivial⟩, h283⟩
 rintro ⟨seen_21, out_22, n_23⟩ a w r ⟨c24, M25, c27, M28, ok, E, h26, h29, r30⟩ hF
 replace hF : calqueref10_fractions_b1 N l_0 seen_21 out_22 n_23 = some r := hF
 unfold calqueref10_fractions_b1 at hF
 refine wp_seq <| sg <| mv E rfl fun a E => lw E (y_leq rfl rfl) fun a E => wn <| cf E rfl hF (fun hc31 hF => ?_) fun hc31 hF => ?_
 rotate_left
 ·refine wp_exit <| t_exit ?_
  obtain rfl := sj hF
  exact so (⟨rfl, ⟨c27, M28, (ok.pk 2 [0] rfl (by decide)), E.keep [4], h29⟩⟩)
 refine wp_skip <| t_norm <| wp_seq <| wp_block <| sg <| mv E rfl fun a E => lv E ok (y_lenR sl_147 h26 rfl) fun a E => ?_
 refine aw E rfl fun a E => sg <| aw E rfl fun a E => ?_
 refine wp_block ?_
 obtain ⟨o39, hL, hF⟩ := bnd hF
 refine c_loop _ (fun (s : (List (List UInt8)) × (List (List UInt8)) × Int) a w => ∃ c40 M41 c43 M44, Ok u m0 (M44 :: M41 :: S) w ∧ Env 106 a [(0, vl_0), (3, c40), (4, c43), (5, vi n_23), (6, (vi (seen_21.length : Int))), (7, vi s.2.2)] ∧ ORow 9 1 pS m0 c40 s.1 M41 ∧ ORow 9 1 pS m0 c43 s.2.1 M44 ∧ InR .i64 s.2.2) (fun (b : ((List (List UInt8)) × (List (List UInt8)))) e a w => e = (.exit 2) ∧ ∃ c273 M274 c276 M277, Ok u m0 (M277 :: M274 :: S) w ∧ Env 106 a [(0, vl_0), (3, c273), (4, c276), (5, vi n_23)] ∧ ORow 9 1 pS m0 c273 b.1 M274 ∧ ORow 9 1 pS m0 c276 b.2 M277) ?_ ?_ N _ a w hL ⟨c24, M25, c27, M28, ok, E.keep [0, 3, 4, 5, 6, 7], h26, h29, (ir 0)⟩
 rotate_left
 ·intro e a w _ hO
  obtain ⟨rfl, c267, M268, c270, M271, ok, E, h269, h272⟩ := hO
  refine b_hit <| b_norm <| t_norm <| c_region <| mv E rfl fun a E => lw E (y_addw rfl rfl) fun a E => av E rfl fun a E => wpList_nil ?_
  obtain rfl := sj hF
  exact step_n ⟨c267, M268, c270, M271, ok, E.keep [0, 3, 4, 5], h269, h272, (InR.wrap _ _)⟩
 rintro ⟨seen_47, out_48, w_49⟩ a w r ⟨c50, M51, c53, M54, ok, E, h52, h55, r56⟩ hF
 replace hF : calqueref10_fractions_b2 N l_0 seen_21 n_23 seen_47 out_48 w_49 = some r := hF
 unfold calqueref10_fractions_b2 at hF
 refine wp_seq <| sg <| mv E rfl fun a E => mv E rfl fun a E => lw E (y_leq rfl rfl) fun a E => wn ?_
 refine cf E rfl hF (fun hc57 hF => ?_) fun hc57 hF => ?_
 rotate_left
 ·refine wp_exit <| t_exit ?_
  obtain rfl := sj hF
  exact so (⟨rfl, ⟨c50, M51, c53, M54, ok, E.keep [0, 3, 4, 5], h52, h55⟩⟩)
 refine wp_skip <| t_norm <| wp_seq <| wp_block <| sg <| av E rfl fun a E => wpList_nil ?_
 refine t_norm <| wp_block ?_
 obtain ⟨o65, hL, hF⟩ := bnd hF
 refine c_loop _ (fun (s : (List (List UInt8)) × (List (List UInt8)) × Int) a w => ∃ c66 M67 c69 M70, Ok u m0 (M70 :: M67 :: S) w ∧ Env 106 a [(0, vl_0), (3, c66), (4, c69), (5, vi n_23), (6, (vi (seen_21.length : Int))), (7, vi w_49), (8, vi s.2.2)] ∧ ORow 9 1 pS m0 c66 s.1 M67 ∧ ORow 9 1 pS m0 c69 s.2.1 M70 ∧ InR .i64 s.2.2) (fun (b : ((List (List UInt8)) × (List (List UInt8)))) e a w => e = (.exit 4) ∧ ∃ c261 M262 c264 M265, Ok u m0 (M265 :: M262 :: S) w ∧ Env 106 a [(0, vl_0), (3, c261), (4, c264), (5, vi n_23), (6, (vi (seen_21.length : Int))), (7, vi w_49)] ∧ ORow 9 1 pS m0 c261 b.1 M262 ∧ ORow 9 1 pS m0 c264 b.2 M265) ?_ ?_ N _ a w hL ⟨c50, M51, c53, M54, ok, E.keep [0, 3, 4, 5, 6, 7, 8], h52, h55, (ir 0)⟩
 rotate_left
 ·intro e a w _ hO
  obtain ⟨rfl, c255, M256, c258, M259, ok, E, h257, h260⟩ := hO
  refine b_hit <| b_norm <| t_norm <| c_region <| mv E rfl fun a E => lw E (y_addw rfl rfl) fun a E => av E rfl fun a E => wpList_nil ?_
  obtain rfl := sj hF
  exact step_n ⟨c255, M256, c258, M259, ok, E.keep [0, 3, 4, 5, 6, 7], h257, h260, (InR.wrap _ _)⟩
 rintro ⟨seen_73, out_74, t_75⟩ a w r ⟨c76, M77, c79, M80, ok, E, h78, h81, r82⟩ hF
 replace hF : calqueref10_fractions_b3 N l_0 seen_21 n_23 w_49 seen_73 out_74 t_75 = some r := hF
 unfold calqueref10_fractions_b3 at hF
 refine wp_seq <| sg <| mv E rfl fun a E => lw E (y_lss rfl rfl) fun a E => wn <| cf E rfl hF (fun hc83 hF => ?_) fun hc83 hF => ?_
 rotate_left
 ·refine wp_exit <| t_exit ?_
  obtain rfl := sj hF
  exact so (⟨rfl, ⟨c76, M77, c79, M80, ok, E.keep [0, 3, 4, 5, 6, 7], h78, h81⟩⟩)
 refine wp_skip <| t_norm <| wp_seq <| wp_block <| wp_seq <| sg <| mv E rfl fun a E => ?_
 obtain ⟨q84, e85, hF⟩ := bnd hF
 refine lw E (y_rm rfl rfl e85) fun a E => lw E (y_eql rfl rfl) fun a E => mv E rfl fun a E => lw E (y_eql rfl rfl) fun a E => lw E (y_bneq Tryz.underlying4 rfl rfl) fun a E => mv E rfl fun a E => bsplit ((q84 == 0) != (w_49 == 0)) (fun hc86 => ?_) (fun hc86 => ?_)
 ·replace hF := cond_t hc86 hF
  replace E := E.upd 34 hc86 rfl
  refine ls E fun a E => ls E fun a E => ls E fun a E => ls E fun a E => ls E fun a E => ls E fun a E => pt E rfl rfl fun a E => mv E rfl fun a E => ?_
  refine ls E fun a E => ls E fun a E => ls E fun a E => ls E fun a E => ls E fun a E => ls E fun a E => pt E rfl rfl fun a E => wpList_nil ?_
  refine t_norm <| c_if E rfl (fun _ => ?_) (fun h => by cases h)
  refine wp_exit <| t_exit <| b_hit <| t_norm <| c_region <| mv E rfl fun a E => lw E (y_add rfl rfl (InR.inc r82 (ir 300) hc83)) fun a E => av E rfl fun a E => ?_
  refine wpList_nil ?_
  obtain rfl := sj hF
  exact step_n ⟨c76, M77, c79, M80, ok, E.keep [0, 3, 4, 5, 6, 7, 8], h78, h81, (InR.inc r82 (ir 300) hc83)⟩
 replace hF := cond_f hc86 hF
 replace E := E.upd 34 hc86 rfl
 refine mv E rfl fun a E => lw E (y_eql rfl rfl) fun a E => mv E rfl fun a E => bsplit (w_49 == 0) (fun hc87 => ?_) (fun hc87 => ?_)
 rotate_left
 ·as_aux_lemma =>
   replace hF := cond_f hc87 hF
   replace E := E.upd 37 hc87 rfl
   refine ls E fun a E => ls E fun a E => pf E rfl rfl fun a E => pf E rfl rfl fun a E => mv E rfl fun a E => mv E rfl fun a E => ?_
   obtain ⟨r172, e173, hF⟩ := bnd hF
   refine l_call E go_72 rfl (calqueref10_decimal_w N t_75 r82 e173 hG ok) rfl rfl ?_
   rintro _ w ⟨⟨rfl, ok⟩, l174⟩
   refine ⟨_, rfl, fun a E => ?_⟩
   refine lw E (y_slen Tryz.underlying9 rfl) fun a E => mv E rfl fun a E => lw E (y_max rfl rfl) fun a E => lw E (y_gtr rfl rfl) fun a E => pf E rfl rfl fun a E => wn <| cf E rfl hF (fun hc175 hF => ?_) fun hc175 hF => ?_
   ·refine wp_exit <| t_exit <| b_hit <| t_norm <| c_region <| mv E rfl fun a E => lw E (y_add rfl rfl (InR.inc r82 (ir 300) hc83)) fun a E => av E rfl fun a E => ?_
    refine wpList_nil ?_
    obtain rfl := sj hF
    exact step_n ⟨c76, M77, c79, M80, ok, E.keep [0, 3, 4, 5, 6, 7, 8], h78, h81, (InR.inc r82 (ir 300) hc83)⟩
   refine wp_skip <| t_norm <| sg <| aw E rfl fun a E => wp_seq ?_
   refine sg <| mv E rfl fun a E => lw E (y_gtr rfl rfl) fun a E => wn ?_
   obtain ⟨o176, hJ, hF⟩ := bnd hF
   refine c_mono (Q' := fun e a w => e = .normal ∧ Ok u m0 (M80 :: M77 :: S) w ∧ Env 106 a [(0, vl_0), (3, c76), (4, c79), (5, vi n_23), (6, (vi (seen_21.length : Int))), (7, vi w_49), (8, vi t_75), (9, vs o176)] ∧ o176.length ≤ LIMS) ?_ ?_
   ·replace hF := hJ
    clear hJ
    refine cf E rfl hF (fun hc178 hF => ?_) fun hc178 hF => ?_
    rotate_left
    ·refine wp_skip ?_
     obtain rfl := sj hF
     exact ⟨rfl, ⟨ok, E.keep [0, 3, 4, 5, 6, 7, 8, 9], (show ([] : List UInt8).length ≤ LIMS by decide)⟩⟩
    refine c_region <| mv E rfl fun a E => mv E rfl fun a E => mv E rfl fun a E => mv E rfl fun a E => lw E (y_subw rfl rfl) fun a E => ?_
    obtain ⟨r179, e180, hF⟩ := bnd hF
    refine l_call E go_132 rfl (calqueref10_padded_w N t_75 r82 w_49 r56 (IntKind.wrap .i64 (n_23 - w_49)) (InR.wrap _ _) e180 hG ok) rfl rfl ?_
    rintro _ w ⟨⟨rfl, ok⟩, l181⟩
    refine ⟨_, rfl, fun a E => ?_⟩
    refine av E rfl fun a E => wpList_nil ?_
    obtain rfl := sj hF
    exact ⟨rfl, ⟨ok, E.keep [0, 3, 4, 5, 6, 7, 8, 9], l181⟩⟩
   clear hJ
   intro e a w hO
   obtain ⟨rfl, ok, E, l182⟩ := hO
   refine t_norm <| wp_seq <| sg <| mv E rfl fun a E => lw E (y_eql rfl rfl) fun a E => wn ?_
   obtain ⟨o183, hJ, hF⟩ := bnd hF
   refine c_mono (Q' := fun e a w => e = .normal ∧ Ok u m0 (M80 :: M77 :: S) w ∧ Env 106 a [(0, vl_0), (3, c76), (4, c79), (5, vi n_23), (6, (vi (seen_21.length : Int))), (7, vi w_49), (8, vi t_75), (9, vs o183)] ∧ o183.length ≤ LIMS) ?_ ?_
   ·replace hF := hJ
    clear hJ
    refine cf E rfl hF (fun hc185 hF => ?_) fun hc185 hF => ?_
    rotate_left
    ·refine wp_skip ?_
     obtain rfl := sj hF
     exact ⟨rfl, ⟨ok, E.keep [0, 3, 4, 5, 6, 7, 8, 9], l182⟩⟩
    refine c_region <| mv E rfl fun a E => ?_
    obtain ⟨r186, e187, hF⟩ := bnd hF
    refine l_call E go_132 rfl (calqueref10_padded_w N 0 (ir 0) n_23 r30 0 (ir 0) e187 hG ok) rfl rfl ?_
    rintro _ w ⟨⟨rfl, ok⟩, l188⟩
    refine ⟨_, rfl, fun a E => ?_⟩
    refine mv E rfl fun a E => ?_
    obtain ⟨s189, e190, hF⟩ := bnd hF
    refine lw E (y_sslice Tryz.underlying9 e190 rfl rfl ⟨_, rfl⟩) fun a E => av E rfl fun a E => wpList_nil ?_
    obtain rfl := sj hF
    exact ⟨rfl, ⟨ok, E.keep [0, 3, 4, 5, 6, 7, 8, 9], (Nat.le_trans (slc_len e190) l188)⟩⟩
   clear hJ
   intro e a w hO
   obtain ⟨rfl, ok, E, l191⟩ := hO
   refine t_norm <| sg <| aw E rfl fun a E => wp_seq <| wp_seq ?_
   refine c_region <| mv E rfl fun a E => lw E (y_gtr rfl rfl) fun a E => wn ?_
   obtain ⟨o192, hJ, hF⟩ := bnd hF
   refine c_mono (Q' := fun e a w => e = .normal ∧ Ok u m0 (M80 :: M77 :: S) w ∧ Env 106 a [(0, vl_0), (3, c76), (4, c79), (5, vi n_23), (6, (vi (seen_21.length : Int))), (7, vi w_49), (8, vi t_75), (9, vs o183), (10, vs o192)] ∧ o192.length ≤ LIMS) ?_ ?_
   ·replace hF := hJ
    clear hJ
    refine cf E rfl hF (fun hc194 hF => ?_) fun hc194 hF => ?_
    rotate_left
    ·refine wp_skip ?_
     obtain rfl := sj hF
     exact ⟨rfl, ⟨ok, E.keep [0, 3, 4, 5, 6, 7, 8, 9, 10], (show ([48] : List UInt8).length ≤ LIMS by decide)⟩⟩
    refine c_region <| mv E rfl fun a E => ?_
    obtain ⟨s195, e196, hF⟩ := bnd hF
    refine lw E (y_cat rfl rfl e196) fun a E => av E rfl fun a E => wpList_nil ?_
    obtain rfl := sj hF
    exact ⟨rfl, ⟨ok, E.keep [0, 3, 4, 5, 6, 7, 8, 9, 10], (cat_len e196)⟩⟩
   clear hJ
   intro e a w hO
   obtain ⟨rfl, ok, E, l197⟩ := hO
   refine t_norm <| sg <| mv E rfl fun a E => mv E rfl fun a E => ?_
   obtain ⟨r198, e199, hF⟩ := bnd hF
   refine l_call E go_130 rfl (calqueref10_vector_w N _ l_0 hl_0 o192 l197 false e199 hG ok) rfl rfl ?_
   rintro _ w ⟨⟨rfl, ok⟩, l200⟩
   refine ⟨_, rfl, fun a E => ?_⟩
   refine aw E rfl fun a E => wp_seq <| sg <| mv E rfl fun a E => lw E (y_eql rfl rfl) fun a E => ?_
   refine wn ?_
   obtain ⟨o201, hJ, hF⟩ := bnd hF
   refine c_mono (Q' := fun e a w => e = .normal ∧ Ok u m0 (M80 :: M77 :: S) w ∧ Env 106 a [(0, vl_0), (3, c76), (4, c79), (5, vi n_23), (6, (vi (seen_21.length : Int))), (7, vi w_49), (8, vi t_75), (9, vs o183), (11, vs o201)] ∧ o201.length ≤ LIMS) ?_ ?_
   ·replace hF := hJ
    clear hJ
    refine cf E rfl hF (fun hc203 hF => ?_) fun hc203 hF => ?_
    rotate_left
    ·refine wp_skip ?_
     obtain rfl := sj hF
     exact ⟨rfl, ⟨ok, E.keep [0, 3, 4, 5, 6, 7, 8, 9, 11], l200⟩⟩
    refine c_region <| mv E rfl fun a E => ?_
    obtain ⟨s204, e205, hF⟩ := bnd hF
    refine lw E (y_cat rfl rfl e205) fun a E => av E rfl fun a E => wpList_nil ?_
    obtain rfl := sj hF
    exact ⟨rfl, ⟨ok, E.keep [0, 3, 4, 5, 6, 7, 8, 9, 11], (cat_len e205)⟩⟩
   clear hJ
   intro e a w hO
   obtain ⟨rfl, ok, E, l206⟩ := hO
   refine t_norm <| sg <| mv E rfl fun a E => mv E rfl fun a E => ?_
   obtain ⟨r212, e213, hF⟩ := bnd hF
   obtain ⟨m207, hle209, ok208, hfz210⟩ := (ok.frs 1 rfl).freeze
   have h211 := ORow.froz mS h78 hle209 hfz210 (by decide)
   refine l_call E go_131 rfl (calqueref10_place_w N _ seen_73 h211 o201 l206 e213 hG ok208) rfl rfl ?_
   rintro _ w ⟨⟨rfl, okz⟩, r214⟩
   replace ok := (Ok.thawAt 1 rfl ok hle209 hfz210 okz)
   refine ⟨_, rfl, fun a E => ?_⟩
   refine aw E rfl fun a E => wp_block <| sg <| mv E rfl fun a E => lw E (y_lss rfl rfl) fun a E => ?_
   refine aw E rfl fun a E => cf E rfl hF (fun hc215 hF => ?_) fun hc215 hF => ?_
   ·refine c_region <| mv E rfl fun a E => mv E rfl fun a E => l_slit (R := pS) (xo := [.tmp 82]) (xs := ([o201] : List (List UInt8))) E ok sl_147 zero_9 rfl ⟨⟨_, rfl, rfl, (pS_mk l206)⟩, trivial⟩ rfl rfl rfl rfl fun c216 M217 a w E ok h218 => ?_
    obtain ⟨l219, e220, hF⟩ := bnd hF
    refine l_app (R := pS) E ok 2 mS sl_147 Tryz.underlying147 rfl h78 (SrcOK.ofRow h218 0 rfl ok) e220 ⟨_, zero_9, rfl⟩ rfl rfl rfl rfl fun c221 M222 a w E ok h223 => mv E rfl fun a E => mv E rfl fun a E => l_slit (R := pS) (xo := [.tmp 86]) (xs := ([o183] : List (List UInt8))) E ok sl_147 zero_9 rfl ⟨⟨_, rfl, rfl, (pS_mk l191)⟩, trivial⟩ rfl rfl rfl rfl fun c224 M225 a w E ok h226 => ?_
    obtain ⟨l227, e228, hF⟩ := bnd hF
    refine l_app (R := pS) E ok 2 mS sl_147 Tryz.underlying147 rfl h81 (SrcOK.ofRow h226 0 rfl ok) e228 ⟨_, zero_9, rfl⟩ rfl rfl rfl rfl fun c229 M230 a w E ok h231 => av E rfl fun a E => av E rfl fun a E => wpList_nil <| b_norm <| b_norm <| t_norm <| c_region ?_
    refine mv E rfl fun a E => lw E (y_add rfl rfl (InR.inc r82 (ir 300) hc83)) fun a E => av E rfl fun a E => wpList_nil ?_
    obtain rfl := sj hF
    exact step_n ⟨c221, M222, c229, M230, (ok.pk 4 [2, 3] rfl (by decide)), E.keep [0, 3, 4, 5, 6, 7, 8], h223, h231, (InR.inc r82 (ir 300) hc83)⟩
   refine sg <| mv E rfl fun a E => mv E rfl fun a E => lw E (y_geq rfl rfl) fun a E => mv E rfl fun a E => bsplit (decide (r212 ≥ (seen_21.length : Int))) (fun hc232 => ?_) (fun hc232 => ?_)
   rotate_left
   ·replace hF := cond_f hc232 hF
    replace E := E.upd 93 hc232 rfl
    refine ls E fun a E => ls E fun a E => ls E fun a E => ls E fun a E => ls E fun a E => ls E fun a E => pf E rfl rfl fun a E => av E rfl fun a E => ?_
    refine wn <| c_if E rfl (fun h => by cases h) (fun _ => ?_)
    refine wp_skip <| b_norm <| b_norm <| t_norm <| c_region <| mv E rfl fun a E => lw E (y_add rfl rfl (InR.inc r82 (ir 300) hc83)) fun a E => av E rfl fun a E => ?_
    refine wpList_nil ?_
    obtain rfl := sj hF
    exact step_n ⟨c76, M77, c79, M80, ok, E.keep [0, 3, 4, 5, 6, 7, 8], h78, h81, (InR.inc r82 (ir 300) hc83)⟩
   replace hF := cond_t hc232 hF
   replace E := E.upd 93 hc232 rfl
   refine mv E rfl fun a E => mv E rfl fun a E => mv E rfl fun a E => ?_
   obtain ⟨x233, e234, hF⟩ := bnd hF
   obtain ⟨b235, o236, hp237, yy238⟩ := orowAt sl_147 h81 e234 (P := Tryz.prog) (X := .tmp 95) (I := .tmp 96) (kd := .i64) (ev_of E rfl) (ev_of E rfl)
   refine lv E ok (yy238 _ _) fun a E => ?_
   obtain ⟨es239, hl240, rr241, hh242⟩ := orowGet h81 e234 hp237 (by decide)
   obtain ⟨rfl, l243⟩ := rr241
   refine lv E ok (y_load one_9 rfl (hh242 _ _ _ 0 rfl)) fun a E => lw E (y_slss rfl rfl) fun a E => pt E rfl rfl fun a E => aw E rfl fun a E => cf E rfl hF (fun hc244 hF => ?_) fun hc244 hF => ?_
   rotate_left
   ·refine wp_skip <| b_norm <| b_norm <| t_norm <| c_region <| mv E rfl fun a E => lw E (y_add rfl rfl (InR.inc r82 (ir 300) hc83)) fun a E => av E rfl fun a E => ?_
    refine wpList_nil ?_
    obtain rfl := sj hF
    exact step_n ⟨c76, M77, c79, M80, ok, E.keep [0, 3, 4, 5, 6, 7, 8], h78, h81, (InR.inc r82 (ir 300) hc83)⟩
   refine c_region <| mv E rfl fun a E => mv E rfl fun a E => mv E rfl fun a E => ?_
   obtain ⟨x245, e246, hF⟩ := bnd hF
   obtain ⟨b247, o248, hp249, yy250⟩ := orowAt sl_147 h81 e246 (P := Tryz.prog) (X := .tmp 101) (I := .tmp 102) (kd := .i64) (ev_of E rfl) (ev_of E rfl)
   refine lv E ok (yy250 _ _) fun a E => ?_
   obtain ⟨l251, e252, hF⟩ := bnd hF
   refine l_storeRow (R := pS) E ok 0 rfl h81 e246 hp249 rfl rfl inf_9 rfl rfl rfl ⟨rfl, trivial⟩ (pS_mk l191) e252 rfl fun M253 w ok h254 => wpList_nil <| b_norm <| b_norm <| t_norm <| c_region <| mv E rfl fun a E => lw E (y_add rfl rfl (InR.inc r82 (ir 300) hc83)) fun a E => ?_
   refine av E rfl fun a E => wpList_nil ?_
   obtain rfl := sj hF
   exact step_n ⟨c76, M77, c79, M253, ok, E.keep [0, 3, 4, 5, 6, 7, 8], h78, h254, (InR.inc r82 (ir 300) hc83)⟩
 replace hF := cond_t hc87 hF
 replace E := E.upd 37 hc87 rfl
 refine mv E rfl fun a E => lw E (y_gtr rfl rfl) fun a E => pt E rfl rfl fun a E => pf E rfl rfl fun a E => mv E rfl fun a E => bsplit (decide (t_75 > 0)) (fun hc88 => ?_) (fun hc88 => ?_)
 ·replace hF := cond_t hc88 hF
  replace E := E.upd 42 hc88 rfl
  refine ls E fun a E => ls E fun a E => ls E fun a E => ls E fun a E => ls E fun a E => ls E fun a E => pt E rfl rfl fun a E => wpList_nil ?_
  refine t_norm <| c_if E rfl (fun _ => ?_) (fun h => by cases h)
  refine wp_exit <| t_exit <| b_hit <| t_norm <| c_region <| mv E rfl fun a E => lw E (y_add rfl rfl (InR.inc r82 (ir 300) hc83)) fun a E => av E rfl fun a E => ?_
  refine wpList_nil ?_
  obtain rfl := sj hF
  exact step_n ⟨c76, M77, c79, M80, ok, E.keep [0, 3, 4, 5, 6, 7, 8], h78, h81, (InR.inc r82 (ir 300) hc83)⟩
 replace hF := cond_f hc88 hF
 replace E := E.upd 42 hc88 rfl
 refine mv E rfl fun a E => ?_
 obtain ⟨r89, e90, hF⟩ := bnd hF
 refine l_call E go_72 rfl (calqueref10_decimal_w N t_75 r82 e90 hG ok) rfl rfl ?_
 rintro _ w ⟨⟨rfl, ok⟩, l91⟩
 refine ⟨_, rfl, fun a E => ?_⟩
 refine lw E (y_slen Tryz.underlying9 rfl) fun a E => mv E rfl fun a E => lw E (y_max rfl rfl) fun a E => lw E (y_gtr rfl rfl) fun a E => pf E rfl rfl fun a E => wn <| cf E rfl hF (fun hc92 hF => ?_) fun hc92 hF => ?_
 ·refine wp_exit <| t_exit <| b_hit <| t_norm <| c_region <| mv E rfl fun a E => lw E (y_add rfl rfl (InR.inc r82 (ir 300) hc83)) fun a E => av E rfl fun a E => ?_
  refine wpList_nil ?_
  obtain rfl := sj hF
  exact step_n ⟨c76, M77, c79, M80, ok, E.keep [0, 3, 4, 5, 6, 7, 8], h78, h81, (InR.inc r82 (ir 300) hc83)⟩
 refine wp_skip <| t_norm <| sg <| aw E rfl fun a E => wp_seq ?_
 refine sg <| mv E rfl fun a E => lw E (y_gtr rfl rfl) fun a E => wn ?_
 obtain ⟨o93, hJ, hF⟩ := bnd hF
 refine c_mono (Q' := fun e a w => e = .normal ∧ Ok u m0 (M80 :: M77 :: S) w ∧ Env 106 a [(0, vl_0), (3, c76), (4, c79), (5, vi n_23), (6, (vi (seen_21.length : Int))), (7, vi w_49), (8, vi t_75), (9, vs o93)] ∧ o93.length ≤ LIMS) ?_ ?_
 ·replace hF := hJ
  clear hJ
  refine cf E rfl hF (fun hc95 hF => ?_) fun hc95 hF => ?_
  rotate_left
  ·refine wp_skip ?_
   obtain rfl := sj hF
   exact ⟨rfl, ⟨ok, E.keep [0, 3, 4, 5, 6, 7, 8, 9], (show ([] : List UInt8).length ≤ LIMS by decide)⟩⟩
  refine c_region <| mv E rfl fun a E => mv E rfl fun a E => mv E rfl fun a E => mv E rfl fun a E => lw E (y_subw rfl rfl) fun a E => ?_
  obtain ⟨r96, e97, hF⟩ := bnd hF
  refine l_call E go_132 rfl (calqueref10_padded_w N t_75 r82 w_49 r56 (IntKind.wrap .i64 (n_23 - w_49)) (InR.wrap _ _) e97 hG ok) rfl rfl ?_
  rintro _ w ⟨⟨rfl, ok⟩, l98⟩
  refine ⟨_, rfl, fun a E => ?_⟩
  refine av E rfl fun a E => wpList_nil ?_
  obtain rfl := sj hF
  exact ⟨rfl, ⟨ok, E.keep [0, 3, 4, 5, 6, 7, 8, 9], l98⟩⟩
 clear hJ
 intro e a w hO
 obtain ⟨rfl, ok, E, l99⟩ := hO
 refine t_norm <| wp_seq <| sg <| mv E rfl fun a E => lw E (y_eql rfl rfl) fun a E => wn ?_
 obtain ⟨o100, hJ, hF⟩ := bnd hF
 refine c_mono (Q' := fun e a w => e = .normal ∧ Ok u m0 (M80 :: M77 :: S) w ∧ Env 106 a [(0, vl_0), (3, c76), (4, c79), (5, vi n_23), (6, (vi (seen_21.length : Int))), (7, vi w_49), (8, vi t_75), (9, vs o100)] ∧ o100.length ≤ LIMS) ?_ ?_
 ·replace hF := hJ
  clear hJ
  refine cf E rfl hF (fun hc102 hF => ?_) fun hc102 hF => ?_
  rotate_left
  ·refine wp_skip ?_
   obtain rfl := sj hF
   exact ⟨rfl, ⟨ok, E.keep [0, 3, 4, 5, 6, 7, 8, 9], l99⟩⟩
  refine c_region <| mv E rfl fun a E => ?_
  obtain ⟨r103, e104, hF⟩ := bnd hF
  refine l_call E go_132 rfl (calqueref10_padded_w N 0 (ir 0) n_23 r30 0 (ir 0) e104 hG ok) rfl rfl ?_
  rintro _ w ⟨⟨rfl, ok⟩, l105⟩
  refine ⟨_, rfl, fun a E => ?_⟩
  refine mv E rfl fun a E => ?_
  obtain ⟨s106, e107, hF⟩ := bnd hF
  refine lw E (y_sslice Tryz.underlying9 e107 rfl rfl ⟨_, rfl⟩) fun a E => av E rfl fun a E => wpList_nil ?_
  obtain rfl := sj hF
  exact ⟨rfl, ⟨ok, E.keep [0, 3, 4, 5, 6, 7, 8, 9], (Nat.le_trans (slc_len e107) l105)⟩⟩
 clear hJ
 intro e a w hO
 obtain ⟨rfl, ok, E, l108⟩ := hO
 refine t_norm <| sg <| aw E rfl fun a E => wp_seq <| wp_seq ?_
 refine c_region <| mv E rfl fun a E => lw E (y_gtr rfl rfl) fun a E => wn ?_
 obtain ⟨o109, hJ, hF⟩ := bnd hF
 refine c_mono (Q' := fun e a w => e = .normal ∧ Ok u m0 (M80 :: M77 :: S) w ∧ Env 106 a [(0, vl_0), (3, c76), (4, c79), (5, vi n_23), (6, (vi (seen_21.length : Int))), (7, vi w_49), (8, vi t_75), (9, vs o100), (10, vs o109)] ∧ o109.length ≤ LIMS) ?_ ?_
 ·replace hF := hJ
  clear hJ
  refine cf E rfl hF (fun hc111 hF => ?_) fun hc111 hF => ?_
  rotate_left
  ·refine wp_skip ?_
   obtain rfl := sj hF
   exact ⟨rfl, ⟨ok, E.keep [0, 3, 4, 5, 6, 7, 8, 9, 10], (show ([48] : List UInt8).length ≤ LIMS by decide)⟩⟩
  refine c_region <| mv E rfl fun a E => ?_
  obtain ⟨s112, e113, hF⟩ := bnd hF
  refine lw E (y_cat rfl rfl e113) fun a E => av E rfl fun a E => wpList_nil ?_
  obtain rfl := sj hF
  exact ⟨rfl, ⟨ok, E.keep [0, 3, 4, 5, 6, 7, 8, 9, 10], (cat_len e113)⟩⟩
 clear hJ
 intro e a w hO
 obtain ⟨rfl, ok, E, l114⟩ := hO
 refine t_norm <| sg <| mv E rfl fun a E => mv E rfl fun a E => ?_
 obtain ⟨r115, e116, hF⟩ := bnd hF
 refine l_call E go_130 rfl (calqueref10_vector_w N _ l_0 hl_0 o109 l114 false e116 hG ok) rfl rfl ?_
 rintro _ w ⟨⟨rfl, ok⟩, l117⟩
 refine ⟨_, rfl, fun a E => ?_⟩
 refine aw E rfl fun a E => wp_seq <| sg <| mv E rfl fun a E => lw E (y_eql rfl rfl) fun a E => ?_
 refine wn ?_
 obtain ⟨o118, hJ, hF⟩ := bnd hF
 refine c_mono (Q' := fun e a w => e = .normal ∧ Ok u m0 (M80 :: M77 :: S) w ∧ Env 106 a [(0, vl_0), (3, c76), (4, c79), (5, vi n_23), (6, (vi (seen_21.length : Int))), (7, vi w_49), (8, vi t_75), (9, vs o100), (11, vs o118)] ∧ o118.length ≤ LIMS) ?_ ?_
 ·replace hF := hJ
  clear hJ
  refine cf E rfl hF (fun hc120 hF => ?_) fun hc120 hF => ?_
  rotate_left
  ·refine wp_skip ?_
   obtain rfl := sj hF
   exact ⟨rfl, ⟨ok, E.keep [0, 3, 4, 5, 6, 7, 8, 9, 11], l117⟩⟩
  refine c_region <| mv E rfl fun a E => ?_
  obtain ⟨s121, e122, hF⟩ := bnd hF
  refine lw E (y_cat rfl rfl e122) fun a E => av E rfl fun a E => wpList_nil ?_
  obtain rfl := sj hF
  exact ⟨rfl, ⟨ok, E.keep [0, 3, 4, 5, 6, 7, 8, 9, 11], (cat_len e122)⟩⟩
 clear hJ
 intro e a w hO
 obtain ⟨rfl, ok, E, l123⟩ := hO
 refine t_norm <| sg <| mv E rfl fun a E => mv E rfl fun a E => ?_
 obtain ⟨r129, e130, hF⟩ := bnd hF
 obtain ⟨m124, hle126, ok125, hfz127⟩ := (ok.frs 1 rfl).freeze
 have h128 := ORow.froz mS h78 hle126 hfz127 (by decide)
 refine l_call E go_131 rfl (calqueref10_place_w N _ seen_73 h128 o118 l123 e130 hG ok125) rfl rfl ?_
 rintro _ w ⟨⟨rfl, okz⟩, r131⟩
 replace ok := (Ok.thawAt 1 rfl ok hle126 hfz127 okz)
 refine ⟨_, rfl, fun a E => ?_⟩
 refine aw E rfl fun a E => wp_block <| sg <| mv E rfl fun a E => lw E (y_lss rfl rfl) fun a E => ?_
 refine aw E rfl fun a E => cf E rfl hF (fun hc132 hF => ?_) fun hc132 hF => ?_
 ·refine c_region <| mv E rfl fun a E => mv E rfl fun a E => l_slit (R := pS) (xo := [.tmp 82]) (xs := ([o118] : List (List UInt8))) E ok sl_147 zero_9 rfl ⟨⟨_, rfl, rfl, (pS_mk l123)⟩, trivial⟩ rfl rfl rfl rfl fun c133 M134 a w E ok h135 => ?_
  obtain ⟨l136, e137, hF⟩ := bnd hF
  refine l_app (R := pS) E ok 2 mS sl_147 Tryz.underlying147 rfl h78 (SrcOK.ofRow h135 0 rfl ok) e137 ⟨_, zero_9, rfl⟩ rfl rfl rfl rfl fun c138 M139 a w E ok h140 => mv E rfl fun a E => mv E rfl fun a E => l_slit (R := pS) (xo := [.tmp 86]) (xs := ([o100] : List (List UInt8))) E ok sl_147 zero_9 rfl ⟨⟨_, rfl, rfl, (pS_mk l108)⟩, trivial⟩ rfl rfl rfl rfl fun c141 M142 a w E ok h143 => ?_
  obtain ⟨l144, e145, hF⟩ := bnd hF
  refine l_app (R := pS) E ok 2 mS sl_147 Tryz.underlying147 rfl h81 (SrcOK.ofRow h143 0 rfl ok) e145 ⟨_, zero_9, rfl⟩ rfl rfl rfl rfl fun c146 M147 a w E ok h148 => av E rfl fun a E => av E rfl fun a E => wpList_nil <| b_norm <| b_norm <| t_norm <| c_region ?_
  refine mv E rfl fun a E => lw E (y_add rfl rfl (InR.inc r82 (ir 300) hc83)) fun a E => av E rfl fun a E => wpList_nil ?_
  obtain rfl := sj hF
  exact step_n ⟨c138, M139, c146, M147, (ok.pk 4 [2, 3] rfl (by decide)), E.keep [0, 3, 4, 5, 6, 7, 8], h140, h148, (InR.inc r82 (ir 300) hc83)⟩
 refine sg <| mv E rfl fun a E => mv E rfl fun a E => lw E (y_geq rfl rfl) fun a E => mv E rfl fun a E => bsplit (decide (r129 ≥ (seen_21.length : Int))) (fun hc149 => ?_) (fun hc149 => ?_)
 rotate_left
 ·replace hF := cond_f hc149 hF
  replace E := E.upd 93 hc149 rfl
  refine ls E fun a E => ls E fun a E => ls E fun a E => ls E fun a E => ls E fun a E => ls E fun a E => pf E rfl rfl fun a E => av E rfl fun a E => ?_
  refine wn <| c_if E rfl (fun h => by cases h) (fun _ => ?_)
  refine wp_skip <| b_norm <| b_norm <| t_norm <| c_region <| mv E rfl fun a E => lw E (y_add rfl rfl (InR.inc r82 (ir 300) hc83)) fun a E => av E rfl fun a E => ?_
  refine wpList_nil ?_
  obtain rfl := sj hF
  exact step_n ⟨c76, M77, c79, M80, ok, E.keep [0, 3, 4, 5, 6, 7, 8], h78, h81, (InR.inc r82 (ir 300) hc83)⟩
 replace hF := cond_t hc149 hF
 replace E := E.upd 93 hc149 rfl
 refine mv E rfl fun a E => mv E rfl fun a E => mv E rfl fun a E => ?_
 obtain ⟨x150, e151, hF⟩ := bnd hF
 obtain ⟨b152, o153, hp154, yy155⟩ := orowAt sl_147 h81 e151 (P := Tryz.prog) (X := .tmp 95) (I := .tmp 96) (kd := .i64) (ev_of E rfl) (ev_of E rfl)
 refine lv E ok (yy155 _ _) fun a E => ?_
 obtain ⟨es156, hl157, rr158, hh159⟩ := orowGet h81 e151 hp154 (by decide)
 obtain ⟨rfl, l160⟩ := rr158
 refine lv E ok (y_load one_9 rfl (hh159 _ _ _ 0 rfl)) fun a E => lw E (y_slss rfl rfl) fun a E => pt E rfl rfl fun a E => aw E rfl fun a E => cf E rfl hF (fun hc161 hF => ?_) fun hc161 hF => ?_
 rotate_left
 ·refine wp_skip <| b_norm <| b_norm <| t_norm <| c_region <| mv E rfl fun a E => lw E (y_add rfl rfl (InR.inc r82 (ir 300) hc83)) fun a E => av E rfl fun a E => ?_
  refine wpList_nil ?_
  obtain rfl := sj hF
  exact step_n ⟨c76, M77, c79, M80, ok, E.keep [0, 3, 4, 5, 6, 7, 8], h78, h81, (InR.inc r82 (ir 300) hc83)⟩
 refine c_region <| mv E rfl fun a E => mv E rfl fun a E => mv E rfl fun a E => ?_
 obtain ⟨x162, e163, hF⟩ := bnd hF
 obtain ⟨b164, o165, hp166, yy167⟩ := orowAt sl_147 h81 e163 (P := Tryz.prog) (X := .tmp 101) (I := .tmp 102) (kd := .i64) (ev_of E rfl) (ev_of E rfl)
 refine lv E ok (yy167 _ _) fun a E => ?_
 obtain ⟨l168, e169, hF⟩ := bnd hF
 refine l_storeRow (R := pS) E ok 0 rfl h81 e163 hp166 rfl rfl inf_9 rfl rfl rfl ⟨rfl, trivial⟩ (pS_mk l108) e169 rfl fun M170 w ok h171 => wpList_nil <| b_norm <| b_norm <| t_norm <| c_region <| mv E rfl fun a E => lw E (y_add rfl rfl (InR.inc r82 (ir 300) hc83)) fun a E => ?_
 refine av E rfl fun a E => wpList_nil ?_
 obtain rfl := sj hF
 exact step_n ⟨c76, M77, c79, M170, ok, E.keep [0, 3, 4, 5, 6, 7, 8], h78, h171, (InR.inc r82 (ir 300) hc83)⟩
def calqueref08_Holds_R (u : World) (m0 : Mem) (S : Segs) (r : Bool × Int) (a : Act) (w : World) : Prop :=
 Ok u m0 S w ∧ a.defers = [] ∧ RVs Tryz.prog a w [.t 4 (.bool r.1), .t 5 (.int .i64 r.2)] ∧ InR .i64 r.2
theorem calqueref08_Holds_w (N : Nat) (vc_0 : Value) (c_0 : List (List (Relation))) (hc_0 : (pL 1 (pL 4 pRelation)) m0 [vc_0] c_0) (number_1 : List UInt8) (lnumber_1 : number_1.length ≤ LIMS) {r : Bool × Int} (hF : calqueref08_Holds N c_0 number_1 = some r) (hG : Glob u) (ok : Ok u m0 S w) :
  Calls Tryz.prog 133 [vc_0, vs number_1].toArray w fun e w' => (e = .returned (.tuple [(.bool r.1), (.int .i64 r.2)].toArray) ∧ Ok u m0 S w') ∧ InR .i64 r.2 := by
 unfold calqueref08_Holds at hF
 refine en (calqueref08_Holds_R u m0 S) r Tryz.func133 rfl rfl rfl (by rintro a w ⟨ok, hd, hrv, h0⟩; exact c_ret2 [.t 4 (.bool r.1), .t 5 (.int .i64 r.2)] hd rfl hrv ⟨⟨rfl, ok⟩, h0⟩) fun fin a E => sg <| av E rfl fun a E => aw E rfl fun a E => wp_seq ?_
 refine sg <| mv E rfl fun a E => ?_
 obtain ⟨r1, e2, hF⟩ := bnd hF
 refine lc E go_23 rfl (calqueref08_Valid_w N _ c_0 hc_0 e2 hG ok) fun w ok a E => lw E (y_not rfl) fun a E => mv E rfl fun a E => bsplit (!r1) (fun hc3 => ?_) (fun hc3 => ?_)
 ·replace hF := cond_t hc3 hF
  replace E := E.upd 12 hc3 rfl
  refine ls E fun a E => ls E fun a E => ls E fun a E => pt E rfl rfl fun a E => wn <| c_if E rfl (fun _ => ?_) (fun h => by cases h)
  refine sg <| av E rfl fun a E => aw E rfl fun a E => wp_ret <| t_ret ?_
  exact fin hF ⟨ok, E.d, ⟨rv_t E rfl, rv_t E rfl, trivial⟩, (ir 1)⟩
 replace hF := cond_f hc3 hF
 replace E := E.upd 12 hc3 rfl
 refine mv E rfl fun a E => ?_
 obtain ⟨r4, e5, hF⟩ := bnd hF
 refine lc E go_33 rfl (calqueref07_Valid_w N number_1 lnumber_1 e5 hG ok) fun w ok a E => lw E (y_not rfl) fun a E => pf E rfl rfl fun a E => wn <| cf E rfl hF (fun hc6 hF => ?_) fun hc6 hF => ?_
 ·refine sg <| av E rfl fun a E => aw E rfl fun a E => wp_ret <| t_ret ?_
  exact fin hF ⟨ok, E.d, ⟨rv_t E rfl, rv_t E rfl, trivial⟩, (ir 1)⟩
 refine wp_skip <| t_norm <| wp_seq <| sg <| aw E rfl fun a E => ?_
 refine wp_block ?_
 obtain ⟨o8, hL, hF⟩ := bnd hF
 refine c_loop _ (fun (s : Int) a w => Ok u m0 (S) w ∧ Env 45 a [(0, vc_0), (1, vs number_1), (6, vi s)] ∧ InR .i64 s) (fun (b : (Unit ⊕ (Bool × Int))) e a w => (Sum.elim (fun b59 => e = (.exit 0) ∧ Ok u m0 (S) w ∧ Env 45 a []) (fun b60 => e = .ret ∧ calqueref08_Holds_R u m0 S b60 a w)) b) ?_ ?_ N _ a w hL ⟨ok, E.keep [0, 1, 6], (ir 0)⟩
 rotate_left
 ·intro e a w _ hO
  rcases o8 with o8 | o8
  rotate_left
  ·replace hF := elim_r hF
   obtain ⟨rfl, hret⟩ := hO
   refine b_ret <| t_ret ?_
   exact fin hF hret
  replace hF := elim_l hF
  obtain ⟨rfl, ok, E⟩ := hO
  refine b_hit <| t_norm <| sg <| av E rfl fun a E => aw E rfl fun a E => ?_
  refine wp_ret ?_
  exact fin hF ⟨ok, E.d, ⟨rv_t E rfl, rv_t E rfl, trivial⟩, (ir 0)⟩
 rintro i_10 a w r ⟨ok, E, r11⟩ hF
 replace hF : calqueref08_Holds_b1 N c_0 number_1 i_10 = some r := hF
 unfold calqueref08_Holds_b1 at hF
 refine wp_seq <| sg <| mv E rfl fun a E => mv E rfl fun a E => lv E ok (y_lenL sl_23 hc_0 rfl) fun a E => lw E (y_lss rfl rfl) fun a E => wpList_nil ?_
 refine t_norm <| cf E rfl hF (fun hc12 hF => ?_) fun hc12 hF => ?_
 rotate_left
 ·refine wp_exit <| t_exit ?_
  obtain rfl := sj hF
  exact so (sl ⟨rfl, ⟨ok, E.keep []⟩⟩)
 refine wp_skip <| t_norm <| wp_seq <| wp_block <| sg <| av E rfl fun a E => wpList_nil ?_
 refine t_norm <| wp_seq <| sg <| aw E rfl fun a E => wp_block ?_
 obtain ⟨o14, hL, hF⟩ := bnd hF
 refine c_loop _ (fun (s : Bool × Int) a w => Ok u m0 (S) w ∧ Env 45 a [(0, vc_0), (1, vs number_1), (6, vi i_10), (7, vb s.1), (8, vi s.2)] ∧ InR .i64 s.2) (fun (b : Bool) e a w => e = (.exit 2) ∧ Ok u m0 (S) w ∧ Env 45 a [(0, vc_0), (1, vs number_1), (6, vi i_10), (7, vb b)]) ?_ ?_ N _ a w hL ⟨ok, E.keep [0, 1, 6, 7, 8], (ir 0)⟩
 rotate_left
 ·intro e a w _ hO
  obtain ⟨rfl, ok, E⟩ := hO
  refine b_hit <| t_norm <| sg <| mv E rfl fun a E => wn <| cf E rfl hF (fun hc58 hF => ?_) fun hc58 hF => ?_
  rotate_left
  ·refine wp_skip <| b_norm <| t_norm <| c_region <| mv E rfl fun a E => lw E (y_add rfl rfl (InR.inc r11 (pL_InR hc_0) hc12)) fun a E => av E rfl fun a E => wpList_nil ?_
   obtain rfl := sj hF
   exact step_n ⟨ok, E.keep [0, 1, 6], (InR.inc r11 (pL_InR hc_0) hc12)⟩
  refine sg <| av E rfl fun a E => aw E rfl fun a E => wp_ret <| b_ret ?_
  refine t_ret ?_
  obtain rfl := sj hF
  exact so (sr ⟨rfl, ⟨ok, E.d, ⟨rv_t E rfl, rv_t E rfl, trivial⟩, (ir 0)⟩⟩)
 rintro ⟨all_16, k_17⟩ a w r ⟨ok, E, r18⟩ hF
 replace hF : calqueref08_Holds_b2 N c_0 number_1 i_10 all_16 k_17 = some r := hF
 unfold calqueref08_Holds_b2 at hF
 refine wp_seq <| sg <| mv E rfl fun a E => mv E rfl fun a E => mv E rfl fun a E => ?_
 obtain ⟨x19, e20, hF⟩ := bnd hF
 obtain ⟨b21, o22, es23, hl24, rr25, at26, yy27⟩ := idxAt sl_23 hc_0 e20 (P := Tryz.prog) (X := .tmp 24) (I := .tmp 25) (kd := .i64) (ev_of E rfl) (ev_of E rfl)
 obtain ⟨c28, rfl, h29⟩ := pL_cell rr25
 refine lv E ok (yy27 _ _) fun a E => lv E ok (y_load one_66 rfl (Holds.ro at26)) fun a E => lv E ok (y_lenL sl_66 h29 rfl) fun a E => lw E (y_lss rfl rfl) fun a E => wn <| cf E rfl hF (fun hc30 hF => ?_) fun hc30 hF => ?_
 rotate_left
 ·refine wp_exit <| t_exit ?_
  obtain rfl := sj hF
  exact so (⟨rfl, ⟨ok, E.keep [0, 1, 6, 7]⟩⟩)
 refine wp_skip <| t_norm <| wp_seq <| wp_block <| c_region <| mv E rfl fun a E => mv E rfl fun a E => bsplit all_16 (fun hc31 => ?_) (fun hc31 => ?_)
 rotate_left
 ·replace hF := cond_f hc31 hF
  replace E := E.upd 33 hc31 rfl
  refine ls E fun a E => ls E fun a E => ls E fun a E => ls E fun a E => ls E fun a E => ls E fun a E => ls E fun a E => ls E fun a E => ?_
  refine ls E fun a E => pf E rfl rfl fun a E => av E rfl fun a E => wpList_nil <| b_norm <| t_norm <| c_region <| mv E rfl fun a E => ?_
  refine lw E (y_add rfl rfl (InR.inc r18 (pL_InR h29) hc30)) fun a E => av E rfl fun a E => wpList_nil ?_
  obtain rfl := sj hF
  exact step_n ⟨ok, E.keep [0, 1, 6, 7, 8], (InR.inc r18 (pL_InR h29) hc30)⟩
 replace hF := cond_t hc31 hF
 replace E := E.upd 33 hc31 rfl
 refine mv E rfl fun a E => mv E rfl fun a E => ?_
 obtain ⟨x32, e33, hF⟩ := bnd hF
 obtain ⟨b34, o35, es36, hl37, rr38, at39, yy40⟩ := idxAt sl_23 hc_0 e33 (P := Tryz.prog) (X := .tmp 34) (I := .tmp 35) (kd := .i64) (ev_of E rfl) (ev_of E rfl)
 obtain ⟨c41, rfl, h42⟩ := pL_cell rr38
 refine lv E ok (yy40 _ _) fun a E => lv E ok (y_load one_66 rfl (Holds.ro at39)) fun a E => mv E rfl fun a E => ?_
 obtain ⟨x43, e44, hF⟩ := bnd hF
 obtain ⟨b45, o46, es47, hl48, rr49, at50, yy51⟩ := idxAt sl_66 h42 e44 (P := Tryz.prog) (X := .tmp 37) (I := .tmp 38) (kd := .i64) (ev_of E rfl) (ev_of E rfl)
 obtain ⟨c54, rfl, r52, r53, h55⟩ := rr49
 refine lv E ok (yy51 _ _) fun a E => lv E ok (y_loadAgg (cs := [vi x43.Operand, vi x43.Mod, vb x43.Not, c54]) agg_69 rfl rfl (Holds.ro at50)) fun a E => mv E rfl fun a E => ?_
 obtain ⟨r56, e57, hF⟩ := bnd hF
 refine lc E go_152 rfl (calqueref08_Relation_w N _ x43 ⟨_, rfl, r52, r53, h55⟩ number_1 lnumber_1 e57 hG ok) fun w ok a E => pt E rfl rfl fun a E => av E rfl fun a E => wpList_nil <| b_norm <| t_norm <| c_region <| mv E rfl fun a E => lw E (y_add rfl rfl (InR.inc r18 (pL_InR h29) hc30)) fun a E => ?_
 refine av E rfl fun a E => wpList_nil ?_
 obtain rfl := sj hF
 exact step_n ⟨ok, E.keep [0, 1, 6, 7, 8], (InR.inc r18 (pL_InR h29) hc30)⟩
def calqueref10_shows_R (u : World) (m0 : Mem) (S : Segs) (r : Bool) (a : Act) (w : World) : Prop :=
 Ok u m0 S w ∧ a.defers = [] ∧ RVs Tryz.prog a w [.t 6 (.bool r)]
theorem calqueref10_shows_w (N : Nat) (vl_0 : Value) (l_0 : List (List (List (Relation)))) (hl_0 : (pL 1 (pL 1 (pL 4 pRelation))) m0 [vl_0] l_0) (number_1 : List UInt8) (lnumber_1 : number_1.length ≤ LIMS) (property_2 : Int) (rproperty_2 : InR .i64 property_2) {r : Bool} (hF : calqueref10_shows N l_0 number_1 property_2 = some r) (hG : Glob u) (ok : Ok u m0 S w) :
  Calls Tryz.prog 100 [vl_0, vs number_1, vi property_2].toArray w fun e w' => (e = .returned (.bool r) ∧ Ok u m0 S w') := by
 unfold calqueref10_shows at hF
 refine en (calqueref10_shows_R u m0 S) r Tryz.func100 rfl rfl rfl (by rintro a w ⟨ok, hd, hrv⟩; exact c_ret2 [.t 6 (.bool r)] hd rfl hrv ⟨rfl, ok⟩) fun fin a E => sg <| aw E rfl fun a E => sg ?_
 refine aw E rfl fun a E => wp_seq <| sg <| av E rfl fun a E => wpList_nil ?_
 refine t_norm <| wp_block ?_
 obtain ⟨o3, hL, hF⟩ := bnd hF
 refine c_loop _ (fun (s : Int × Int) a w => Ok u m0 (S) w ∧ Env 44 a [(0, vl_0), (1, vs number_1), (2, vi property_2), (7, vi s.1), (8, vi s.2)] ∧ InR .i64 s.1 ∧ InR .i64 s.2) (fun (b : Int) e a w => e = (.exit 0) ∧ Ok u m0 (S) w ∧ Env 44 a [(2, vi property_2), (7, vi b)] ∧ InR .i64 b) ?_ ?_ N _ a w hL ⟨ok, E.keep [0, 1, 2, 7, 8], (ir 0), (ir 0)⟩
 ·rintro ⟨n_6, i_7⟩ a w r ⟨ok, E, r8, r9⟩ hF
  replace hF : calqueref10_shows_b1 N l_0 number_1 n_6 i_7 = some r := hF
  unfold calqueref10_shows_b1 at hF
  refine wp_seq <| sg <| mv E rfl fun a E => mv E rfl fun a E => lv E ok (y_lenL sl_26 hl_0 rfl) fun a E => lw E (y_lss rfl rfl) fun a E => wpList_nil ?_
  refine t_norm <| cf E rfl hF (fun hc10 hF => ?_) fun hc10 hF => ?_
  rotate_left
  ·refine wp_exit <| t_exit ?_
   obtain rfl := sj hF
   exact so (⟨rfl, ⟨ok, E.keep [2, 7], r8⟩⟩)
  refine wp_skip <| t_norm <| wp_seq <| wp_block <| sg <| mv E rfl fun a E => mv E rfl fun a E => ?_
  obtain ⟨x11, e12, hF⟩ := bnd hF
  obtain ⟨b13, o14, es15, hl16, rr17, at18, yy19⟩ := idxAt sl_26 hl_0 e12 (P := Tryz.prog) (X := .tmp 18) (I := .tmp 19) (kd := .i64) (ev_of E rfl) (ev_of E rfl)
  obtain ⟨c20, rfl, h21⟩ := pL_cell rr17
  refine lv E ok (yy19 _ _) fun a E => lv E ok (y_load one_23 rfl (Holds.ro at18)) fun a E => mv E rfl fun a E => ?_
  obtain ⟨r22, e23, hF⟩ := bnd hF
  refine l_call E go_133 rfl (calqueref08_Holds_w N _ x11 h21 number_1 lnumber_1 e23 hG ok) rfl rfl ?_
  rintro _ w ⟨⟨rfl, ok⟩, r24⟩
  refine ⟨_, rfl, fun a E => ?_⟩
  refine mv E rfl fun a E => lw E (y_extract rfl rfl) fun a E => lw E (y_extract rfl rfl) fun a E => av E rfl fun a E => aw E rfl fun a E => wp_seq ?_
  refine c_region <| mv E rfl fun a E => wn <| cf E rfl hF (fun hc25 hF => ?_) fun hc25 hF => ?_
  rotate_left
  ·refine wp_skip <| b_norm <| t_norm <| c_region <| mv E rfl fun a E => lw E (y_add rfl rfl (InR.inc r9 (pL_InR hl_0) hc10)) fun a E => av E rfl fun a E => wpList_nil ?_
   obtain rfl := sj hF
   exact step_n ⟨ok, E.keep [0, 1, 2, 7, 8], r8, (InR.inc r9 (pL_InR hl_0) hc10)⟩
  refine c_region <| mv E rfl fun a E => lw E (y_addw rfl rfl) fun a E => av E rfl fun a E => wpList_nil <| b_norm <| t_norm <| c_region ?_
  refine mv E rfl fun a E => lw E (y_add rfl rfl (InR.inc r9 (pL_InR hl_0) hc10)) fun a E => av E rfl fun a E => wpList_nil ?_
  obtain rfl := sj hF
  exact step_n ⟨ok, E.keep [0, 1, 2, 7, 8], (InR.wrap _ _), (InR.inc r9 (pL_InR hl_0) hc10)⟩
 intro e a w _ hO
 obtain ⟨rfl, ok, E, r26⟩ := hO
 refine b_hit <| t_norm <| wp_seq <| sg <| mv E rfl fun a E => wn ?_
 refine wp_block <| sg <| lw E (y_eql rfl rfl) fun a E => aw E rfl fun a E => cf E rfl hF (fun hc27 hF => ?_) fun hc27 hF => ?_
 ·refine sg <| mv E rfl fun a E => lw E (y_gtr rfl rfl) fun a E => aw E rfl fun a E => wp_ret ?_
  refine b_ret <| t_ret ?_
  exact fin hF ⟨ok, E.d, ⟨rv_t E rfl, trivial⟩⟩
 refine sg <| lw E (y_eql rfl rfl) fun a E => aw E rfl fun a E => cf E rfl hF (fun hc28 hF => ?_) fun hc28 hF => ?_
 ·refine sg <| mv E rfl fun a E => lw E (y_eql rfl rfl) fun a E => aw E rfl fun a E => wp_ret ?_
  refine b_ret <| t_ret ?_
  exact fin hF ⟨ok, E.d, ⟨rv_t E rfl, trivial⟩⟩
 refine sg <| lw E (y_eql rfl rfl) fun a E => aw E rfl fun a E => cf E rfl hF (fun hc29 hF => ?_) fun hc29 hF => ?_
 ·refine sg <| mv E rfl fun a E => lw E (y_eql rfl rfl) fun a E => aw E rfl fun a E => wp_ret ?_
  refine b_ret <| t_ret ?_
  exact fin hF ⟨ok, E.d, ⟨rv_t E rfl, trivial⟩⟩
 refine wp_skip <| b_norm <| t_norm <| sg <| mv E rfl fun a E => lw E (y_eql rfl rfl) fun a E => av E rfl fun a E => ?_
 refine wn <| wp_ret ?_
 exact fin hF ⟨ok, E.d, ⟨rv_t E rfl, trivial⟩⟩
def calqueref10_first_R (u : World) (m0 : Mem) (S : Segs) (r : (List UInt8) × Bool) (a : Act) (w : World) : Prop :=
 Ok u m0 S w ∧ a.defers = [] ∧ RVs Tryz.prog a w [.t 4 (.string (bs r.1)), .t 5 (.bool r.2)] ∧ r.1.length ≤ LIMS
theorem calqueref10_first_w (N : Nat) (vl_0 : Value) (l_0 : List (List (List (Relation)))) (hl_0 : (pL 1 (pL 1 (pL 4 pRelation))) m0 [vl_0] l_0) (property_1 : Int) (rproperty_1 : InR .i64 property_1) {r : (List UInt8) × Bool} (hF : calqueref10_first N l_0 property_1 = some r) (hG : Glob u) (ok : Ok u m0 S w) :
  Calls Tryz.prog 64 [vl_0, vi property_1].toArray w fun e w' => (e = .returned (.tuple [(.string (bs r.1)), (.bool r.2)].toArray) ∧ Ok u m0 S w') ∧ r.1.length ≤ LIMS := by
 have hb0 := ok.base
 have le_m0 := Mem.le.refl m0
 unfold calqueref10_first at hF
 refine en (calqueref10_first_R u m0 S) r Tryz.func64 rfl rfl rfl (by rintro a w ⟨ok, hd, hrv, h0⟩; exact c_ret2 [.t 4 (.string (bs r.1)), .t 5 (.bool r.2)] hd rfl hrv ⟨⟨rfl, ok⟩, h0⟩) fun fin a E => sg <| av E rfl fun a E => aw E rfl fun a E => wp_seq ?_
 refine c_region <| aw E rfl fun a E => wp_seq <| sg <| av E rfl fun a E => ?_
 refine wn <| wp_block ?_
 obtain ⟨M6, ok, h7⟩ := nilrow (e := 69) (k := 4) (R := pRelation) ok
 obtain ⟨o8, hL, hF⟩ := bnd hF
 refine c_loop _ (fun (s : (List (Relation)) × Int) a w => ∃ m9 c10 M11, m0.le m9 ∧ Ok u m9 (M11 :: S) w ∧ Env 76 a [(0, vl_0), (1, vi property_1), (6, c10), (7, vi s.2)] ∧ ORow 69 4 pRelation m9 c10 s.1 M11 ∧ InR .i64 s.2) (fun (b : ((List (Relation)))) e a w => e = (.exit 0) ∧ ∃ m130 c131 M132, m0.le m130 ∧ Ok u m130 (M132 :: S) w ∧ Env 76 a [(0, vl_0), (1, vi property_1), (6, c131)] ∧ ORow 69 4 pRelation m130 c131 b M132) ?_ ?_ N _ a w hL ⟨m0, (Value.slice none 0 0), M6, Mem.le.refl _, ok, E.keep [0, 1, 6, 7], h7, (ir 0)⟩
 ·rintro ⟨relations_14, i_15⟩ a w r ⟨m16, c17, M18, hle, ok, E, h19, r20⟩ hF
  replace hF : calqueref10_first_b1 N l_0 relations_14 i_15 = some r := hF
  unfold calqueref10_first_b1 at hF
  have le_m0 := le_m0.trans hle
  have hl_0 := (mL (mL (mL mRelation))).up hle hl_0
  refine wp_seq <| sg <| mv E rfl fun a E => mv E rfl fun a E => lv E ok (y_lenL sl_26 hl_0 rfl) fun a E => lw E (y_lss rfl rfl) fun a E => wpList_nil ?_
  refine t_norm <| cf E rfl hF (fun hc21 hF => ?_) fun hc21 hF => ?_
  rotate_left
  ·refine wp_exit <| t_exit ?_
   obtain rfl := sj hF
   exact so (⟨rfl, ⟨m16, c17, M18, le_m0, ok, E.keep [0, 1, 6], h19⟩⟩)
  refine wp_skip <| t_norm <| wp_seq <| wp_block <| c_region <| mv E rfl fun a E => mv E rfl fun a E => mv E rfl fun a E => ?_
  obtain ⟨x22, e23, hF⟩ := bnd hF
  obtain ⟨b24, o25, es26, hl27, rr28, at29, yy30⟩ := idxAt sl_26 hl_0 e23 (P := Tryz.prog) (X := .tmp 22) (I := .tmp 23) (kd := .i64) (ev_of E rfl) (ev_of E rfl)
  obtain ⟨c31, rfl, h32⟩ := pL_cell rr28
  refine lv E ok (yy30 _ _) fun a E => lv E ok (y_load one_23 rfl (Holds.ro at29)) fun a E => ?_
  obtain ⟨r33, e34, hF⟩ := bnd hF
  refine l_call E go_39 rfl (calqueref10_all_w N _ x22 h32 e34 hG ok) rfl rfl ?_
  rintro _ w ⟨m35, c36, rfl, hle, ok, h37⟩
  have le_m0 := le_m0.trans hle
  have hl_0 := (mL (mL (mL mRelation))).up hle hl_0
  have h19 := ORow.up mRelation hle h19
  have h32 := (mL (mL mRelation)).up hle h32
  have at29 := At.up hle at29
  refine ⟨_, rfl, fun a E => ?_⟩
  obtain ⟨l38, e39, hF⟩ := bnd hF
  refine l_app (R := pRelation) E ok 0 mRelation sl_66 Tryz.underlying66 rfl h19 (SrcOK.ofL h37 ok) e39 ⟨_, zero_69, rfl⟩ rfl rfl rfl rfl fun c40 M41 a w E ok h42 => av E rfl fun a E => wpList_nil <| b_norm <| t_norm <| c_region <| mv E rfl fun a E => lw E (y_add rfl rfl (InR.inc r20 (pL_InR hl_0) hc21)) fun a E => ?_
  refine av E rfl fun a E => wpList_nil ?_
  obtain rfl := sj hF
  exact step_n ⟨m35, c40, M41, le_m0, ok, E.keep [0, 1, 6, 7], h42, (InR.inc r20 (pL_InR hl_0) hc21)⟩
 intro e a w _ hO
 obtain ⟨rfl, m43, c44, M45, hle, ok, E, h46⟩ := hO
 have le_m0 := le_m0.trans hle
 have hl_0 := (mL (mL (mL mRelation))).up hle hl_0
 refine b_hit <| t_norm <| sg <| mv E rfl fun a E => ?_
 obtain ⟨m47, hle, ok, hfz⟩ := (ok.frs 0 rfl).freeze
 have h48 := ORow.froz mRelation h46 hle hfz (by decide)
 have le_m0 := le_m0.trans hle
 have hl_0 := (mL (mL (mL mRelation))).up hle hl_0
 obtain ⟨r49, e50, hF⟩ := bnd hF
 refine l_call E go_98 rfl (calqueref10_wholes_w N _ o8 h48 e50 hG ok) rfl rfl ?_
 rintro _ w ⟨m51, c52, rfl, hle, ok, h53⟩
 have le_m0 := le_m0.trans hle
 have hl_0 := (mL (mL (mL mRelation))).up hle hl_0
 have h48 := (mL mRelation).up hle h48
 refine ⟨_, rfl, fun a E => ?_⟩
 refine mv E rfl fun a E => ?_
 obtain ⟨r54, e55, hF⟩ := bnd hF
 refine l_call E go_99 rfl (calqueref10_fractions_w N _ o8 h48 e55 hG ok) rfl rfl ?_
 rintro _ w ⟨m56, c57, rfl, hle, ok, h58⟩
 have le_m0 := le_m0.trans hle
 have hl_0 := (mL (mL (mL mRelation))).up hle hl_0
 have h48 := (mL mRelation).up hle h48
 have h53 := (mL mS).up hle h53
 refine ⟨_, rfl, fun a E => ?_⟩
 refine av E rfl fun a E => aw E rfl fun a E => sg <| av E rfl fun a E => av E rfl fun a E => ?_
 refine wn <| wp_seq <| sg <| aw E rfl fun a E => ?_
 refine wp_block ?_
 obtain ⟨o61, hL, hF⟩ := bnd hF
 refine c_loop _ (fun (s : (List UInt8) × Bool × Int) a w => Ok u m56 (S) w ∧ Env 76 a [(0, vl_0), (1, vi property_1), (8, c52), (9, c57), (10, vs s.1), (11, vb s.2.1), (12, vi s.2.2)] ∧ s.1.length ≤ LIMS ∧ InR .i64 s.2.2) (fun (b : ((List UInt8) × Bool)) e a w => e = (.exit 2) ∧ Ok u m56 (S) w ∧ Env 76 a [(10, vs b.1), (11, vb b.2)] ∧ b.1.length ≤ LIMS) ?_ ?_ N _ a w hL ⟨ok, E.keep [0, 1, 8, 9, 10, 11, 12], (show ([] : List UInt8).length ≤ LIMS by decide), (ir 0)⟩
 rotate_left
 ·intro e a w _ hO
  obtain ⟨rfl, ok, E, l128⟩ := hO
  refine b_hit <| t_norm <| sg <| mv E rfl fun a E => mv E rfl fun a E => av E rfl fun a E => av E rfl fun a E => ?_
  refine wn <| wp_ret ?_
  exact fin hF ⟨(ok).down hb0 le_m0, E.d, ⟨rv_t E rfl, rv_t E rfl, trivial⟩, l128⟩
 rintro ⟨best_64, ok_65, i_66⟩ a w r ⟨ok, E, l67, r68⟩ hF
 replace hF : calqueref10_first_b2 N l_0 property_1 r49 r54 best_64 ok_65 i_66 = some r := hF
 unfold calqueref10_first_b2 at hF
 refine wp_seq <| sg <| mv E rfl fun a E => mv E rfl fun a E => lv E ok (y_lenL sl_147 h53 rfl) fun a E => lw E (y_lss rfl rfl) fun a E => wpList_nil ?_
 refine t_norm <| cf E rfl hF (fun hc69 hF => ?_) fun hc69 hF => ?_
 rotate_left
 ·refine wp_exit <| t_exit ?_
  obtain rfl := sj hF
  exact so (⟨rfl, ⟨ok, E.keep [10, 11], l67⟩⟩)
 refine wp_skip <| t_norm <| wp_seq <| wp_block <| sg <| av E rfl fun a E => wpList_nil ?_
 refine t_norm <| wp_block ?_
 obtain ⟨o72, hL, hF⟩ := bnd hF
 refine c_loop _ (fun (s : (List UInt8) × Bool × Int) a w => Ok u m56 (S) w ∧ Env 76 a [(0, vl_0), (1, vi property_1), (8, c52), (9, c57), (10, vs s.1), (11, vb s.2.1), (12, vi i_66), (13, vi s.2.2)] ∧ s.1.length ≤ LIMS ∧ InR .i64 s.2.2) (fun (b : ((List UInt8) × Bool)) e a w => e = (.exit 4) ∧ Ok u m56 (S) w ∧ Env 76 a [(0, vl_0), (1, vi property_1), (8, c52), (9, c57), (10, vs b.1), (11, vb b.2), (12, vi i_66)] ∧ b.1.length ≤ LIMS) ?_ ?_ N _ a w hL ⟨ok, E.keep [0, 1, 8, 9, 10, 11, 12, 13], l67, (ir 0)⟩
 rotate_left
 ·intro e a w _ hO
  obtain ⟨rfl, ok, E, l126⟩ := hO
  refine b_hit <| b_norm <| t_norm <| c_region <| mv E rfl fun a E => lw E (y_add rfl rfl (InR.inc r68 (pL_InR h53) hc69)) fun a E => av E rfl fun a E => wpList_nil ?_
  obtain rfl := sj hF
  exact step_n ⟨ok, E.keep [0, 1, 8, 9, 10, 11, 12], l126, (InR.inc r68 (pL_InR h53) hc69)⟩
 rintro ⟨best_75, ok_76, k_77⟩ a w r ⟨ok, E, l78, r79⟩ hF
 replace hF : calqueref10_first_b3 N l_0 property_1 r49 r54 i_66 best_75 ok_76 k_77 = some r := hF
 unfold calqueref10_first_b3 at hF
 refine wp_seq <| sg <| mv E rfl fun a E => mv E rfl fun a E => lv E ok (y_lenL sl_147 h58 rfl) fun a E => lw E (y_lss rfl rfl) fun a E => wpList_nil ?_
 refine t_norm <| cf E rfl hF (fun hc80 hF => ?_) fun hc80 hF => ?_
 rotate_left
 ·refine wp_exit <| t_exit ?_
  obtain rfl := sj hF
  exact so (⟨rfl, ⟨ok, E.keep [0, 1, 8, 9, 10, 11, 12], l78⟩⟩)
 refine wp_skip <| t_norm <| wp_seq <| wp_block <| sg <| mv E rfl fun a E => mv E rfl fun a E => ?_
 obtain ⟨x81, e82, hF⟩ := bnd hF
 obtain ⟨b83, o84, es85, hl86, rr87, at88, yy89⟩ := idxAt sl_147 h53 e82 (P := Tryz.prog) (X := .tmp 44) (I := .tmp 45) (kd := .i64) (ev_of E rfl) (ev_of E rfl)
 obtain ⟨rfl, l90⟩ := rr87
 refine lv E ok (yy89 _ _) fun a E => lv E ok (y_load one_9 rfl (Holds.ro at88)) fun a E => aw E rfl fun a E => wp_seq <| sg ?_
 refine mv E rfl fun a E => mv E rfl fun a E => ?_
 obtain ⟨x91, e92, hF⟩ := bnd hF
 obtain ⟨b93, o94, es95, hl96, rr97, at98, yy99⟩ := idxAt sl_147 h58 e92 (P := Tryz.prog) (X := .tmp 48) (I := .tmp 49) (kd := .i64) (ev_of E rfl) (ev_of E rfl)
 obtain ⟨rfl, l100⟩ := rr97
 refine lv E ok (yy99 _ _) fun a E => lv E ok (y_load one_9 rfl (Holds.ro at98)) fun a E => lw E (y_sneq rfl rfl) fun a E => wn ?_
 obtain ⟨o101, hJ, hF⟩ := bnd hF
 refine c_mono (Q' := fun e a w => e = .normal ∧ Ok u m56 (S) w ∧ Env 76 a [(0, vl_0), (1, vi property_1), (8, c52), (9, c57), (10, vs best_75), (11, vb ok_76), (12, vi i_66), (13, vi k_77), (14, vs o101)] ∧ o101.length ≤ LIMS) ?_ ?_
 ·replace hF := hJ
  clear hJ
  refine cf E rfl hF (fun hc103 hF => ?_) fun hc103 hF => ?_
  rotate_left
  ·refine wp_skip ?_
   obtain rfl := sj hF
   exact ⟨rfl, ⟨ok, E.keep [0, 1, 8, 9, 10, 11, 12, 13, 14], l90⟩⟩
  refine c_region <| mv E rfl fun a E => mv E rfl fun a E => mv E rfl fun a E => ?_
  obtain ⟨x104, e105, hF⟩ := bnd hF
  obtain ⟨b106, o107, es108, hl109, rr110, at111, yy112⟩ := idxAt sl_147 h58 e105 (P := Tryz.prog) (X := .tmp 54) (I := .tmp 55) (kd := .i64) (ev_of E rfl) (ev_of E rfl)
  obtain ⟨rfl, l113⟩ := rr110
  refine lv E ok (yy112 _ _) fun a E => lv E ok (y_load one_9 rfl (Holds.ro at111)) fun a E => ?_
  obtain ⟨s114, e115, hF⟩ := bnd hF
  refine lw E (y_cat rfl rfl e115) fun a E => ?_
  obtain ⟨s116, e117, hF⟩ := bnd hF
  refine lw E (y_cat rfl rfl e117) fun a E => av E rfl fun a E => wpList_nil ?_
  obtain rfl := sj hF
  exact ⟨rfl, ⟨ok, E.keep [0, 1, 8, 9, 10, 11, 12, 13, 14], (cat_len e117)⟩⟩
 clear hJ
 intro e a w hO
 obtain ⟨rfl, ok, E, l118⟩ := hO
 refine t_norm <| sg <| mv E rfl fun a E => mv E rfl fun a E => mv E rfl fun a E => ?_
 obtain ⟨r119, e120, hF⟩ := bnd hF
 refine lc E go_100 rfl (calqueref10_shows_w N _ l_0 hl_0 o101 l118 property_1 rproperty_1 e120 hG ok) fun w ok a E => mv E rfl fun a E => bsplit r119 (fun hc121 => ?_) (fun hc121 => ?_)
 rotate_left
 ·replace hF := cond_f hc121 hF
  replace E := E.upd 64 hc121 rfl
  refine ls E fun a E => ls E fun a E => ls E fun a E => ls E fun a E => ls E fun a E => ls E fun a E => ls E fun a E => pf E rfl rfl fun a E => ?_
  refine wn <| c_if E rfl (fun h => by cases h) (fun _ => ?_)
  refine wp_skip <| b_norm <| t_norm <| c_region <| mv E rfl fun a E => lw E (y_add rfl rfl (InR.inc r79 (pL_InR h58) hc80)) fun a E => av E rfl fun a E => wpList_nil ?_
  obtain rfl := sj hF
  exact step_n ⟨ok, E.keep [0, 1, 8, 9, 10, 11, 12, 13], l78, (InR.inc r79 (pL_InR h58) hc80)⟩
 replace hF := cond_t hc121 hF
 replace E := E.upd 64 hc121 rfl
 refine mv E rfl fun a E => lw E (y_not rfl) fun a E => mv E rfl fun a E => bsplit (!ok_76) (fun hc122 => ?_) (fun hc122 => ?_)
 ·replace hF := cond_t hc122 hF
  replace E := E.upd 67 hc122 rfl
  refine ls E fun a E => ls E fun a E => ls E fun a E => pt E rfl rfl fun a E => pt E rfl rfl fun a E => wn <| c_if E rfl (fun _ => ?_) (fun h => by cases h)
  refine c_region <| mv E rfl fun a E => av E rfl fun a E => av E rfl fun a E => wpList_nil <| b_norm <| t_norm <| c_region ?_
  refine mv E rfl fun a E => lw E (y_add rfl rfl (InR.inc r79 (pL_InR h58) hc80)) fun a E => av E rfl fun a E => wpList_nil ?_
  obtain rfl := sj hF
  exact step_n ⟨ok, E.keep [0, 1, 8, 9, 10, 11, 12, 13], l118, (InR.inc r79 (pL_InR h58) hc80)⟩
 replace hF := cond_f hc122 hF
 replace E := E.upd 67 hc122 rfl
 refine mv E rfl fun a E => mv E rfl fun a E => ?_
 obtain ⟨r123, e124, hF⟩ := bnd hF
 refine lc E go_28 rfl (calqueref10_Before_w N o101 l118 best_75 l78 e124 hG ok) fun w ok a E => pf E rfl rfl fun a E => pt E rfl rfl fun a E => wn <| cf E rfl hF (fun hc125 hF => ?_) fun hc125 hF => ?_
 rotate_left
 ·refine wp_skip <| b_norm <| t_norm <| c_region <| mv E rfl fun a E => lw E (y_add rfl rfl (InR.inc r79 (pL_InR h58) hc80)) fun a E => av E rfl fun a E => wpList_nil ?_
  obtain rfl := sj hF
  exact step_n ⟨ok, E.keep [0, 1, 8, 9, 10, 11, 12, 13], l78, (InR.inc r79 (pL_InR h58) hc80)⟩
 refine c_region <| mv E rfl fun a E => av E rfl fun a E => av E rfl fun a E => wpList_nil <| b_norm <| t_norm <| c_region ?_
 refine mv E rfl fun a E => lw E (y_add rfl rfl (InR.inc r79 (pL_InR h58) hc80)) fun a E => av E rfl fun a E => wpList_nil ?_
 obtain rfl := sj hF
 exact step_n ⟨ok, E.keep [0, 1, 8, 9, 10, 11, 12, 13], l118, (InR.inc r79 (pL_InR h58) hc80)⟩
end Go.Proofs.YtidfofhmnlhfjaaGreatDoor
namespace Go.Proofs.YtidfofhmnlhfjaaGreatDoor
open Go.X
def calqueref10_valid_b1 (N : Nat) (l_0 : List (List (List (Relation)))) (i_4 : Int) : Option (Int ⊕ ((Unit ⊕ Bool))) :=
  bif (decide (i_4 < (l_0.length : Int))) then
    (idx l_0 i_4).bind fun x7 =>
    (calqueref08_Valid N x7).bind fun r18 =>
    bif (!r18) then
      some (.inr (.inr false))
    else
      some (.inl (i_4 + 1))
  else
    some (.inr (.inl ()))
def calqueref10_valid (N : Nat) (l_0 : List (List (List (Relation)))) : Option Bool :=
  (iter (fun s => calqueref10_valid_b1 N l_0 s) N 0).bind fun o2 =>
  Sum.elim (fun _o2 =>
    some (decide ((l_0.length : Int) ≤ 10)))
  (fun o2 =>
    some o2) o2
def calqueref10_Disjoint_b1 (_N : Nat) (l_0 : List (Rule)) (conds_13 : List (List (List (Relation)))) (i_14 : Int) : Option (((List (List (List (Relation)))) × Int) ⊕ (((List (List (List (Relation))))))) :=
  bif (decide (i_14 < (l_0.length : Int))) then
    (idx l_0 i_14).bind fun x20 =>
    (app conds_13 ([x20.Cond] : List (List (List (Relation))))).bind fun l35 =>
    some (.inl (l35, (i_14 + 1)))
  else
    some (.inr conds_13)
def calqueref10_Disjoint_b3 (N : Nat) (o8 : ((List (List (List (Relation)))))) (i_54 : Int) (k_60 : Int) : Option (Int ⊕ ((Unit ⊕ (Int × Int × (List UInt8) × Int)))) :=
  bif (decide (k_60 < (o8.length : Int))) then
    (show Option ((List UInt8) × Bool) from
      (idx o8 i_54).bind fun x65 =>
      (idx o8 k_60).bind fun x77 =>
      (calqueref10_first N ([x65, x77] : List (List (List (Relation)))) 2).bind fun r97 =>
      some (r97.1, r97.2)).bind fun o63 =>
    bif o63.2 then
      some (.inr (.inr (i_54, k_60, o63.1, 19)))
    else
      some (.inl (k_60 + 1))
  else
    some (.inr (.inl ()))
def calqueref10_Disjoint_b2 (N : Nat) (o8 : ((List (List (List (Relation)))))) (i_54 : Int) : Option (Int ⊕ ((Unit ⊕ (Int × Int × (List UInt8) × Int)))) :=
  bif (decide (i_54 < (o8.length : Int))) then
    (iter (fun s => calqueref10_Disjoint_b3 N o8 i_54 s) N (i_54 + 1)).bind fun o58 =>
    Sum.elim (fun _o58 =>
      some (.inl (i_54 + 1)))
    (fun o58 =>
      some (.inr (.inr o58))) o58
  else
    some (.inr (.inl ()))
def calqueref10_Disjoint (N : Nat) (l_0 : List (Rule)) : Option (Int × Int × (List UInt8) × Int) :=
  (iter (fun s => calqueref10_Disjoint_b1 N l_0 s.1 s.2) N ([], 0)).bind fun o8 =>
  (calqueref10_valid N o8).bind fun r48 =>
  bif (!r48) then
    some (0, 0, [], 1)
  else
    (iter (fun s => calqueref10_Disjoint_b2 N o8 s) N 0).bind fun o52 =>
    Sum.elim (fun _o52 =>
      some (0, 0, [], 0))
    (fun o52 =>
      some o52) o52
def calquelaw10_count_b1 (N : Nat) (l_0 : List (List (List (Relation)))) (number_1 : List UInt8) (n_6 : Int) (x_7 : Int) : Option ((Int × Int) ⊕ ((Int ⊕ Int))) :=
  bif (decide (x_7 < (l_0.length : Int))) then
    (idx l_0 x_7).bind fun x11 =>
    (condition_Holds N x11 number_1).bind fun r22 =>
    bif (r22.2 != 0) then
      some (.inr (.inr (-1)))
    else
      bif r22.1 then
        some (.inl ((IntKind.wrap .i64 (n_6 + 1)), (x_7 + 1)))
      else
        some (.inl (n_6, (x_7 + 1)))
  else
    some (.inr (.inl n_6))
def calquelaw10_count (N : Nat) (l_0 : List (List (List (Relation)))) (number_1 : List UInt8) : Option Int :=
  (iter (fun s => calquelaw10_count_b1 N l_0 number_1 s.1 s.2) N (0, 0)).bind fun o3 =>
  Sum.elim (fun o3 =>
    some o3)
  (fun o3 =>
    some o3) o3
def calquelaw10_DecideDisjoint_b1 (_N : Nat) (l_0 : List (List (List (Relation)))) (rules_23 : List (Rule)) (x_24 : Int) : Option (((List (Rule)) × Int) ⊕ (((List (Rule))))) :=
  bif (decide (x_24 < (l_0.length : Int))) then
    (idx l_0 x_24).bind fun x30 =>
    (app rules_23 ([(Rule.mk ([102, 101, 119]) x30)] : List (Rule))).bind fun l44 =>
    some (.inl (l44, (x_24 + 1)))
  else
    some (.inr rules_23)
def calquelaw10_DecideDisjoint (N : Nat) (l_0 : List (List (List (Relation)))) (number_1 : List UInt8) : Option Bool :=
  (calquelaw10_awake N ).bind fun r1 =>
  bif (!r1) then
    (calquelaw10_awake N ).bind fun r4 =>
    some r4
  else
    (calquelaw10_few N l_0).bind fun r6 =>
    bif (!r6) then
      (calquelaw10_awake N ).bind fun r9 =>
      some r9
    else
      (iter (fun s => calquelaw10_DecideDisjoint_b1 N l_0 s.1 s.2) N ([], 0)).bind fun o18 =>
      (decide_Disjoint N o18).bind fun r57 =>
      (calqueref10_Disjoint N o18).bind fun r68 =>
      bif (r57.1 != r68.1) then
        some false
      else
        bif (r57.2.1 != r68.2.1) then
          some false
        else
          bif (r57.2.2.1 != r68.2.2.1) then
            some false
          else
            bif (r57.2.2.2 != r68.2.2.2) then
              some false
            else
              bif (r57.2.2.2 == 19) then
                (show Option Bool from
                  (idx l_0 r57.1).bind fun x80 =>
                  (idx l_0 r57.2.1).bind fun x91 =>
                  (calquelaw10_count N ([x80, x91] : List (List (List (Relation)))) r57.2.2.1).bind fun r110 =>
                  some (r110 == 2)).bind fun o79 =>
                some o79
              else
                bif (r57.2.2.2 != 0) then
                  some true
                else
                  (calqueref10_Unsigned N number_1).bind fun r141 =>
                  bif (!r141) then
                    some true
                  else
                    (calquelaw10_count N l_0 number_1).bind fun r144 =>
                    some (decide (r144 ≤ 1))
end Go.Proofs.YtidfofhmnlhfjaaGreatDoor
namespace Go.Proofs.YtidfofhmnlhfjaaGreatDoor
open Go.X
variable {u : World} {m0 : Mem} {S : Segs} {w : World}
set_option maxHeartbeats 4000000
set_option maxRecDepth 100000
theorem go_10 : goB Tryz.prog 10 = true := by kernel_rfl
theorem go_11 : goB Tryz.prog 11 = true := by kernel_rfl
theorem go_20 : goB Tryz.prog 20 = true := by kernel_rfl
theorem go_21 : goB Tryz.prog 21 = true := by kernel_rfl
theorem go_22 : goB Tryz.prog 22 = true := by kernel_rfl
theorem go_24 : goB Tryz.prog 24 = true := by kernel_rfl
theorem go_63 : goB Tryz.prog 63 = true := by kernel_rfl
theorem go_64 : goB Tryz.prog 64 = true := by kernel_rfl
def calqueref10_valid_R (u : World) (m0 : Mem) (S : Segs) (r : Bool) (a : Act) (w : World) : Prop :=
 Ok u m0 S w ∧ a.defers = [] ∧ RVs Tryz.prog a w [.t 2 (.bool r)]
theorem calqueref10_valid_w (N : Nat) (vl_0 : Value) (l_0 : List (List (List (Relation)))) (hl_0 : (pL 1 (pL 1 (pL 4 pRelation))) m0 [vl_0] l_0) {r : Bool} (hF : calqueref10_valid N l_0 = some r) (hG : Glob u) (ok : Ok u m0 S w) :
  Calls Tryz.prog 63 [vl_0].toArray w fun e w' => (e = .returned (.bool r) ∧ Ok u m0 S w') := by
 unfold calqueref10_valid at hF
 refine en (calqueref10_valid_R u m0 S) r Tryz.func63 rfl rfl rfl (by rintro a w ⟨ok, hd, hrv⟩; exact c_ret2 [.t 2 (.bool r)] hd rfl hrv ⟨rfl, ok⟩) fun fin a E => sg <| aw E rfl fun a E => wp_seq <| wp_seq ?_
 refine c_region <| aw E rfl fun a E => wp_block ?_
 obtain ⟨o2, hL, hF⟩ := bnd hF
 refine c_loop _ (fun (s : Int) a w => Ok u m0 (S) w ∧ Env 19 a [(0, vl_0), (3, vi s)] ∧ InR .i64 s) (fun (b : (Unit ⊕ Bool)) e a w => (Sum.elim (fun b21 => e = (.exit 0) ∧ Ok u m0 (S) w ∧ Env 19 a [(0, vl_0)]) (fun b22 => e = .ret ∧ calqueref10_valid_R u m0 S b22 a w)) b) ?_ ?_ N _ a w hL ⟨ok, E.keep [0, 3], (ir 0)⟩
 rotate_left
 ·intro e a w _ hO
  rcases o2 with o2 | o2
  rotate_left
  ·replace hF := elim_r hF
   obtain ⟨rfl, hret⟩ := hO
   refine b_ret <| t_ret ?_
   exact fin hF hret
  replace hF := elim_l hF
  obtain ⟨rfl, ok, E⟩ := hO
  refine b_hit <| t_norm <| sg <| mv E rfl fun a E => lv E ok (y_lenL sl_26 hl_0 rfl) fun a E => lw E (y_leq rfl rfl) fun a E => av E rfl fun a E => ?_
  refine wn <| wp_ret ?_
  exact fin hF ⟨ok, E.d, ⟨rv_t E rfl, trivial⟩⟩
 rintro i_4 a w r ⟨ok, E, r5⟩ hF
 replace hF : calqueref10_valid_b1 N l_0 i_4 = some r := hF
 unfold calqueref10_valid_b1 at hF
 refine wp_seq <| sg <| mv E rfl fun a E => mv E rfl fun a E => lv E ok (y_lenL sl_26 hl_0 rfl) fun a E => lw E (y_lss rfl rfl) fun a E => wpList_nil ?_
 refine t_norm <| cf E rfl hF (fun hc6 hF => ?_) fun hc6 hF => ?_
 rotate_left
 ·refine wp_exit <| t_exit ?_
  obtain rfl := sj hF
  exact so (sl ⟨rfl, ⟨ok, E.keep [0]⟩⟩)
 refine wp_skip <| t_norm <| wp_seq <| wp_block <| sg <| mv E rfl fun a E => mv E rfl fun a E => ?_
 obtain ⟨x7, e8, hF⟩ := bnd hF
 obtain ⟨b9, o10, es11, hl12, rr13, at14, yy15⟩ := idxAt sl_26 hl_0 e8 (P := Tryz.prog) (X := .tmp 10) (I := .tmp 11) (kd := .i64) (ev_of E rfl) (ev_of E rfl)
 obtain ⟨c16, rfl, h17⟩ := pL_cell rr13
 refine lv E ok (yy15 _ _) fun a E => lv E ok (y_load one_23 rfl (Holds.ro at14)) fun a E => ?_
 obtain ⟨r18, e19, hF⟩ := bnd hF
 refine lc E go_23 rfl (calqueref08_Valid_w N _ x7 h17 e19 hG ok) fun w ok a E => lw E (y_not rfl) fun a E => wn <| cf E rfl hF (fun hc20 hF => ?_) fun hc20 hF => ?_
 rotate_left
 ·refine wp_skip <| b_norm <| t_norm <| c_region <| mv E rfl fun a E => lw E (y_add rfl rfl (InR.inc r5 (pL_InR hl_0) hc6)) fun a E => av E rfl fun a E => wpList_nil ?_
  obtain rfl := sj hF
  exact step_n ⟨ok, E.keep [0, 3], (InR.inc r5 (pL_InR hl_0) hc6)⟩
 refine sg <| aw E rfl fun a E => wp_ret <| b_ret <| t_ret ?_
 obtain rfl := sj hF
 exact so (sr ⟨rfl, ⟨ok, E.d, ⟨rv_t E rfl, trivial⟩⟩⟩)
def calqueref10_Disjoint_R (u : World) (m0 : Mem) (S : Segs) (r : Int × Int × (List UInt8) × Int) (a : Act) (w : World) : Prop :=
 Ok u m0 S w ∧ a.defers = [] ∧ RVs Tryz.prog a w [.t 2 (.int .i64 r.1), .t 3 (.int .i64 r.2.1), .t 4 (.string (bs r.2.2.1)), .t 5 (.int .i64 r.2.2.2)] ∧ InR .i64 r.1 ∧ InR .i64 r.2.1 ∧ r.2.2.1.length ≤ LIMS ∧ InR .i64 r.2.2.2
theorem calqueref10_Disjoint_w (N : Nat) (vl_0 : Value) (l_0 : List (Rule)) (hl_0 : (pL 2 pRule) m0 [vl_0] l_0) {r : Int × Int × (List UInt8) × Int} (hF : calqueref10_Disjoint N l_0 = some r) (hG : Glob u) (ok : Ok u m0 S w) :
  Calls Tryz.prog 20 [vl_0].toArray w fun e w' => (e = .returned (.tuple [(.int .i64 r.1), (.int .i64 r.2.1), (.string (bs r.2.2.1)), (.int .i64 r.2.2.2)].toArray) ∧ Ok u m0 S w') ∧ InR .i64 r.1 ∧ InR .i64 r.2.1 ∧ r.2.2.1.length ≤ LIMS ∧ InR .i64 r.2.2.2 := by
 have le_m0 := Mem.le.refl m0
 unfold calqueref10_Disjoint at hF
 refine en (calqueref10_Disjoint_R u m0 S) r Tryz.func20 rfl rfl rfl (by rintro a w ⟨ok, hd, hrv, h0, h1, h2, h3⟩; exact c_ret2 [.t 2 (.int .i64 r.1), .t 3 (.int .i64 r.2.1), .t 4 (.string (bs r.2.2.1)), .t 5 (.int .i64 r.2.2.2)] hd rfl hrv ⟨⟨rfl, ok⟩, h0, h1, h2, h3⟩) fun fin a E => sg <| av E rfl fun a E => av E rfl fun a E => av E rfl fun a E => av E rfl fun a E => wpList_nil ?_
 refine t_norm <| sg <| aw E rfl fun a E => wp_seq <| wp_seq ?_
 refine c_region <| aw E rfl fun a E => wp_block ?_
 obtain ⟨M6, ok, h7⟩ := nilrow (e := 23) (k := 1) (R := (pL 1 (pL 4 pRelation))) ok
 obtain ⟨o8, hL, hF⟩ := bnd hF
 refine c_loop _ (fun (s : (List (List (List (Relation)))) × Int) a w => ∃ c9 M10, Ok u m0 (M10 :: S) w ∧ Env 60 a [(0, vl_0), (6, c9), (7, vi s.2)] ∧ ORow 23 1 (pL 1 (pL 4 pRelation)) m0 c9 s.1 M10 ∧ InR .i64 s.2) (fun (b : ((List (List (List (Relation)))))) e a w => e = (.exit 0) ∧ ∃ c135 M136, Ok u m0 (M136 :: S) w ∧ Env 60 a [(6, c135)] ∧ ORow 23 1 (pL 1 (pL 4 pRelation)) m0 c135 b M136) ?_ ?_ N _ a w hL ⟨(Value.slice none 0 0), M6, ok, E.keep [0, 6, 7], h7, (ir 0)⟩
 ·rintro ⟨conds_13, i_14⟩ a w r ⟨c15, M16, ok, E, h17, r18⟩ hF
  replace hF : calqueref10_Disjoint_b1 N l_0 conds_13 i_14 = some r := hF
  unfold calqueref10_Disjoint_b1 at hF
  refine wp_seq <| sg <| mv E rfl fun a E => mv E rfl fun a E => lv E ok (y_lenL sl_43 hl_0 rfl) fun a E => lw E (y_lss rfl rfl) fun a E => wpList_nil ?_
  refine t_norm <| cf E rfl hF (fun hc19 hF => ?_) fun hc19 hF => ?_
  rotate_left
  ·refine wp_exit <| t_exit ?_
   obtain rfl := sj hF
   exact so (⟨rfl, ⟨c15, M16, ok, E.keep [6], h17⟩⟩)
  refine wp_skip <| t_norm <| wp_seq <| wp_block <| c_region <| mv E rfl fun a E => mv E rfl fun a E => mv E rfl fun a E => ?_
  obtain ⟨x20, e21, hF⟩ := bnd hF
  obtain ⟨b22, o23, es24, hl25, rr26, at27, yy28⟩ := idxAt sl_43 hl_0 e21 (P := Tryz.prog) (X := .tmp 19) (I := .tmp 20) (kd := .i64) (ev_of E rfl) (ev_of E rfl)
  obtain ⟨c30, rfl, l29, h31⟩ := rr26
  refine lv E ok (yy28 _ _) fun a E => fv E fo_45_1 rfl fun a E => lv E ok (y_load one_23 rfl (Holds.ro (At.sub 1 1 at27))) fun a E => l_slit (R := (pL 1 (pL 4 pRelation))) (xo := [.tmp 23]) (xs := ([x20.Cond] : List (List (List (Relation))))) E ok sl_26 zero_23 rfl ⟨⟨_, (pL_cells h31), rfl, h31⟩, trivial⟩ rfl rfl rfl rfl fun c32 M33 a w E ok h34 => ?_
  obtain ⟨l35, e36, hF⟩ := bnd hF
  refine l_app (R := (pL 1 (pL 4 pRelation))) E ok 1 (mL (mL mRelation)) sl_26 Tryz.underlying26 rfl h17 (SrcOK.ofRow h34 0 rfl ok) e36 ⟨_, zero_23, rfl⟩ rfl rfl rfl rfl fun c37 M38 a w E ok h39 => av E rfl fun a E => wpList_nil <| b_norm <| t_norm <| c_region <| mv E rfl fun a E => lw E (y_add rfl rfl (InR.inc r18 (pL_InR hl_0) hc19)) fun a E => ?_
  refine av E rfl fun a E => wpList_nil ?_
  obtain rfl := sj hF
  exact step_n ⟨c37, M38, (ok.pk 2 [1] rfl (by decide)), E.keep [0, 6, 7], h39, (InR.inc r18 (pL_InR hl_0) hc19)⟩
 intro e a w _ hO
 obtain ⟨rfl, c40, M41, ok, E, h42⟩ := hO
 refine b_hit <| t_norm <| wp_seq <| sg <| mv E rfl fun a E => ?_
 obtain ⟨r48, e49, hF⟩ := bnd hF
 obtain ⟨m43, hle45, ok44, hfz46⟩ := (ok.frs 0 rfl).freeze
 have h47 := ORow.froz (mL (mL mRelation)) h42 hle45 hfz46 (by decide)
 refine l_call E go_63 rfl (calqueref10_valid_w N _ o8 h47 e49 hG ok44) rfl rfl ?_
 rintro _ w ⟨rfl, okz⟩
 replace ok := (Ok.thawAt 0 rfl ok hle45 hfz46 okz)
 refine ⟨_, rfl, fun a E => ?_⟩
 refine lw E (y_not rfl) fun a E => wn <| cf E rfl hF (fun hc50 hF => ?_) fun hc50 hF => ?_
 ·refine sg <| av E rfl fun a E => av E rfl fun a E => av E rfl fun a E => aw E rfl fun a E => ?_
  refine wp_ret <| t_ret ?_
  exact fin hF ⟨ok.drop, E.d, ⟨rv_t E rfl, rv_t E rfl, rv_t E rfl, rv_t E rfl, trivial⟩, (ir 0), (ir 0), (show ([] : List UInt8).length ≤ LIMS by decide), (ir 1)⟩
 refine wp_skip <| t_norm <| wp_seq <| sg <| aw E rfl fun a E => ?_
 refine wp_block ?_
 obtain ⟨o52, hL, hF⟩ := bnd hF
 refine c_loop _ (fun (s : Int) a w => Ok u m0 (M41 :: S) w ∧ Env 60 a [(6, c40), (8, vi s)] ∧ InR .i64 s) (fun (b : (Unit ⊕ (Int × Int × (List UInt8) × Int))) e a w => (Sum.elim (fun b133 => e = (.exit 2) ∧ Ok u m0 (M41 :: S) w ∧ Env 60 a []) (fun b134 => e = .ret ∧ calqueref10_Disjoint_R u m0 S b134 a w)) b) ?_ ?_ N _ a w hL ⟨ok, E.keep [6, 8], (ir 0)⟩
 rotate_left
 ·intro e a w _ hO
  rcases o52 with o52 | o52
  rotate_left
  ·replace hF := elim_r hF
   obtain ⟨rfl, hret⟩ := hO
   refine b_ret <| t_ret ?_
   exact fin hF hret
  replace hF := elim_l hF
  obtain ⟨rfl, ok, E⟩ := hO
  refine b_hit <| t_norm <| sg <| av E rfl fun a E => av E rfl fun a E => av E rfl fun a E => av E rfl fun a E => ?_
  refine wn <| wp_ret ?_
  exact fin hF ⟨ok.drop, E.d, ⟨rv_t E rfl, rv_t E rfl, rv_t E rfl, rv_t E rfl, trivial⟩, (ir 0), (ir 0), (show ([] : List UInt8).length ≤ LIMS by decide), (ir 0)⟩
 rintro i_54 a w r ⟨ok, E, r55⟩ hF
 replace hF : calqueref10_Disjoint_b2 N o8 i_54 = some r := hF
 unfold calqueref10_Disjoint_b2 at hF
 refine wp_seq <| sg <| mv E rfl fun a E => mv E rfl fun a E => lv E ok (y_lenR sl_26 h42 rfl) fun a E => lw E (y_lss rfl rfl) fun a E => wpList_nil ?_
 refine t_norm <| cf E rfl hF (fun hc56 hF => ?_) fun hc56 hF => ?_
 rotate_left
 ·refine wp_exit <| t_exit ?_
  obtain rfl := sj hF
  exact so (sl ⟨rfl, ⟨ok, E.keep []⟩⟩)
 refine wp_skip <| t_norm <| wp_seq <| wp_block <| sg <| mv E rfl fun a E => lw E (y_add rfl rfl (InR.inc r55 (ORow.InR h42) hc56)) fun a E => ?_
 refine aw E rfl fun a E => wp_block ?_
 obtain ⟨o58, hL, hF⟩ := bnd hF
 refine c_loop _ (fun (s : Int) a w => Ok u m0 (M41 :: S) w ∧ Env 60 a [(6, c40), (8, vi i_54), (9, vi s)] ∧ InR .i64 s) (fun (b : (Unit ⊕ (Int × Int × (List UInt8) × Int))) e a w => (Sum.elim (fun b131 => e = (.exit 4) ∧ Ok u m0 (M41 :: S) w ∧ Env 60 a [(6, c40), (8, vi i_54)]) (fun b132 => e = .ret ∧ calqueref10_Disjoint_R u m0 S b132 a w)) b) ?_ ?_ N _ a w hL ⟨ok, E.keep [6, 8, 9], (InR.inc r55 (ORow.InR h42) hc56)⟩
 rotate_left
 ·intro e a w _ hO
  rcases o58 with o58 | o58
  rotate_left
  ·replace hF := elim_r hF
   obtain ⟨rfl, hret⟩ := hO
   refine b_ret <| b_ret <| t_ret ?_
   obtain rfl := sj hF
   exact so (sr ⟨rfl, hret⟩)
  replace hF := elim_l hF
  obtain ⟨rfl, ok, E⟩ := hO
  refine b_hit <| b_norm <| t_norm <| c_region <| mv E rfl fun a E => lw E (y_add rfl rfl (InR.inc r55 (ORow.InR h42) hc56)) fun a E => av E rfl fun a E => wpList_nil ?_
  obtain rfl := sj hF
  exact step_n ⟨ok, E.keep [6, 8], (InR.inc r55 (ORow.InR h42) hc56)⟩
 rintro k_60 a w r ⟨ok, E, r61⟩ hF
 replace hF : calqueref10_Disjoint_b3 N o8 i_54 k_60 = some r := hF
 unfold calqueref10_Disjoint_b3 at hF
 refine wp_seq <| sg <| mv E rfl fun a E => mv E rfl fun a E => lv E ok (y_lenR sl_26 h42 rfl) fun a E => lw E (y_lss rfl rfl) fun a E => wpList_nil ?_
 refine t_norm <| cf E rfl hF (fun hc62 hF => ?_) fun hc62 hF => ?_
 rotate_left
 ·refine wp_exit <| t_exit ?_
  obtain rfl := sj hF
  exact so (sl ⟨rfl, ⟨ok, E.keep [6, 8]⟩⟩)
 refine wp_skip <| t_norm <| wp_seq <| wp_block <| wp_seq ?_
 obtain ⟨o63, hJ, hF⟩ := bnd hF
 refine c_mono (Q' := fun e a w => e = .normal ∧ Ok u m0 (M41 :: S) w ∧ Env 60 a [(6, c40), (8, vi i_54), (9, vi k_60), (10, vs o63.1), (11, vb o63.2)] ∧ o63.1.length ≤ LIMS) ?_ ?_
 rotate_left
 ·clear hJ
  intro e a w hO
  obtain ⟨rfl, ok, E, l129⟩ := hO
  refine t_norm <| sg <| mv E rfl fun a E => wn <| cf E rfl hF (fun hc130 hF => ?_) fun hc130 hF => ?_
  rotate_left
  ·refine wp_skip <| b_norm <| t_norm <| c_region <| mv E rfl fun a E => lw E (y_add rfl rfl (InR.inc r61 (ORow.InR h42) hc62)) fun a E => av E rfl fun a E => wpList_nil ?_
   obtain rfl := sj hF
   exact step_n ⟨ok, E.keep [6, 8, 9], (InR.inc r61 (ORow.InR h42) hc62)⟩
  refine sg <| mv E rfl fun a E => mv E rfl fun a E => mv E rfl fun a E => av E rfl fun a E => av E rfl fun a E => av E rfl fun a E => ?_
  refine aw E rfl fun a E => wp_ret <| b_ret <| t_ret ?_
  obtain rfl := sj hF
  exact so (sr ⟨rfl, ⟨ok.drop, E.d, ⟨rv_t E rfl, rv_t E rfl, rv_t E rfl, rv_t E rfl, trivial⟩, r55, r61, l129, (ir 19)⟩⟩)
 replace hF := hJ
 clear hJ
 obtain ⟨x65, e66, hF⟩ := bnd hF
 obtain ⟨x77, e78, hF⟩ := bnd hF
 obtain ⟨r97, e98, hF⟩ := bnd hF
 obtain rfl := sj hF
 refine k_begin [] (Cls u m0 (M41 :: [])) (Cls u m0 (M41 :: [])) (by kernel_rfl) ?_
 intro w hw
 replace ok := okdrew ok hw
 clear hw
 refine k_next (cl1 (cq le_m0 ok [0] rfl) (cq le_m0 ok [0] rfl)) fun hT => kt 0 E rfl hT (y_move rfl) fun a E => kt 1 E rfl hT (y_move rfl) fun a E => ?_
 obtain ⟨b100, o101, hp102, yy103⟩ := orowAt sl_26 h42 e66 (P := Tryz.prog) (X := .tmp 44) (I := .tmp 45) (kd := .i64) (ev_of E rfl) (ev_of E rfl)
 refine kt 2 E rfl hT (yy103 _ _) fun a E => ?_
 obtain ⟨es104, hl105, rr106, hh107⟩ := orowGet h42 e66 hp102 (by decide)
 obtain ⟨c108, rfl, h109⟩ := pL_cell rr106
 refine kt 3 E rfl hT (y_load one_23 rfl (Holds.crow hh107 0 rfl)) fun a E => kt 4 E rfl hT (y_move rfl) fun a E => kt 5 E rfl hT (y_move rfl) fun a E => ?_
 obtain ⟨b110, o111, hp112, yy113⟩ := orowAt sl_26 h42 e78 (P := Tryz.prog) (X := .tmp 48) (I := .tmp 49) (kd := .i64) (ev_of E rfl) (ev_of E rfl)
 refine kt 6 E rfl hT (yy113 _ _) fun a E => ?_
 obtain ⟨es114, hl115, rr116, hh117⟩ := orowGet h42 e78 hp112 (by decide)
 obtain ⟨c118, rfl, h119⟩ := pL_cell rr116
 refine kt 7 E rfl hT (y_load one_23 rfl (Holds.crow hh117 0 rfl)) fun a E => k_all [8] (by kernel_rfl) rfl (one_c ?_)
 ·refine wo rfl <| l_slit (R := (pL 1 (pL 4 pRelation))) (xo := [.tmp 47, .tmp 51]) (xs := ([x65, x77] : List (List (List (Relation))))) E ok sl_26 zero_23 rfl ⟨⟨_, (pL_cells h109), rfl, h109⟩, ⟨_, (pL_cells h119), rfl, h119⟩, trivial⟩ rfl rfl rfl rfl fun c120 M121 a w E ok h122 => wn <| k_next (cl1 (cq le_m0 ok [1] rfl) (cq le_m0 ok [1] rfl)) fun hT => k_all [9] (by kernel_rfl) rfl (one_c ?_)
  ·refine wpOp_of_list (o := _) rfl ?_
   obtain ⟨m123, hle125, ok124, hfz126⟩ := (ok.frs 0 rfl).freeze
   have h127 := ORow.froz (mL (mL mRelation)) h122 hle125 hfz126 (by decide)
   refine l_call E go_64 rfl (calqueref10_first_w N _ ([x65, x77] : List (List (List (Relation)))) h127 2 (ir 2) e98 hG ok124) rfl rfl ?_
   rintro _ w ⟨⟨rfl, okz⟩, l128⟩
   replace ok := (Ok.thawAt 0 rfl ok hle125 hfz126 okz)
   refine ⟨_, rfl, fun a E => ?_⟩
   refine wn <| k_next (cl1 (cq le_m0 ok [1] rfl) (cq le_m0 ok [1] rfl)) fun hT => kt 10 E rfl hT (y_move rfl) fun a E => kt 11 E rfl hT (y_extract rfl rfl) fun a E => kt 12 E rfl hT (y_extract rfl rfl) fun a E => kt 13 E rfl hT (y_assign rfl) fun a E => kt 14 E rfl hT (y_assign rfl) fun a E => ?_
   refine k_done (by kernel_rfl) ?_
   exact ⟨rfl, ⟨(ok.pk 2 [1] rfl (by decide)), E.keep [6, 8, 9, 10, 11], l128⟩⟩
def calquelaw10_count_R (u : World) (m0 : Mem) (S : Segs) (r : Int) (a : Act) (w : World) : Prop :=
 Ok u m0 S w ∧ a.defers = [] ∧ RVs Tryz.prog a w [.t 4 (.int .i64 r)] ∧ InR .i64 r
theorem calquelaw10_count_w (N : Nat) (vl_0 : Value) (l_0 : List (List (List (Relation)))) (hl_0 : (pL 1 (pL 1 (pL 4 pRelation))) m0 [vl_0] l_0) (number_1 : List UInt8) (lnumber_1 : number_1.length ≤ LIMS) {r : Int} (hF : calquelaw10_count N l_0 number_1 = some r) (hG : Glob u) (ok : Ok u m0 S w) :
  Calls Tryz.prog 21 [vl_0, Value.string (bs number_1)].toArray w fun e w' => (e = .returned (.int .i64 r) ∧ Ok u m0 S w') ∧ InR .i64 r := by
 unfold calquelaw10_count at hF
 refine en (calquelaw10_count_R u m0 S) r Tryz.func21 rfl rfl rfl (by rintro a w ⟨ok, hd, hrv, h0⟩; exact c_ret2 [.t 4 (.int .i64 r)] hd rfl hrv ⟨⟨rfl, ok⟩, h0⟩) fun fin a E => sg <| aw E rfl fun a E => sg ?_
 refine aw E rfl fun a E => wp_seq <| sg <| mv E rfl fun a E => lv E ok (y_lenL sl_26 hl_0 rfl) fun a E => ?_
 refine mv E rfl fun a E => wn <| wp_block ?_
 obtain ⟨o3, hL, hF⟩ := bnd hF
 refine c_loop _ (fun (s : Int × Int) a w => Ok u m0 (S) w ∧ Env 30 a [(0, vl_0), (1, vs number_1), (5, vi s.1), (10, (vi (l_0.length : Int))), (11, vi s.2)] ∧ InR .i64 s.1 ∧ InR .i64 s.2) (fun (b : (Int ⊕ Int)) e a w => (Sum.elim (fun b28 => e = (.exit 0) ∧ Ok u m0 (S) w ∧ Env 30 a [(5, vi b28)] ∧ InR .i64 b28) (fun b30 => e = .ret ∧ calquelaw10_count_R u m0 S b30 a w)) b) ?_ ?_ N _ a w hL ⟨ok, E.keep [0, 1, 5, 10, 11], (ir 0), (ir 0)⟩
 rotate_left
 ·intro e a w _ hO
  rcases o3 with o3 | o3
  rotate_left
  ·replace hF := elim_r hF
   obtain ⟨rfl, hret⟩ := hO
   refine b_ret <| t_ret ?_
   exact fin hF hret
  replace hF := elim_l hF
  obtain ⟨rfl, ok, E, r27⟩ := hO
  refine b_hit <| t_norm <| sg <| mv E rfl fun a E => aw E rfl fun a E => ?_
  refine wp_ret ?_
  exact fin hF ⟨ok, E.d, ⟨rv_t E rfl, trivial⟩, r27⟩
 rintro ⟨n_6, x_7⟩ a w r ⟨ok, E, r8, r9⟩ hF
 replace hF : calquelaw10_count_b1 N l_0 number_1 n_6 x_7 = some r := hF
 unfold calquelaw10_count_b1 at hF
 refine sg <| lw E (y_lss rfl rfl) fun a E => wn <| wp_seq <| cf E rfl hF (fun hc10 hF => ?_) fun hc10 hF => ?_
 rotate_left
 ·refine wp_exit <| t_exit ?_
  obtain rfl := sj hF
  exact so (sl ⟨rfl, ⟨ok, E.keep [5], r8⟩⟩)
 refine wp_skip <| t_norm <| wp_seq <| wp_block <| sg <| mv E rfl fun a E => av E rfl fun a E => ?_
 refine wn <| sg <| mv E rfl fun a E => mv E rfl fun a E => ?_
 obtain ⟨x11, e12, hF⟩ := bnd hF
 obtain ⟨b13, o14, es15, hl16, rr17, at18, yy19⟩ := idxAt sl_26 hl_0 e12 (P := Tryz.prog) (X := .tmp 15) (I := .tmp 16) (kd := .i64) (ev_of E rfl) (ev_of E rfl)
 obtain ⟨c20, rfl, h21⟩ := pL_cell rr17
 refine lv E ok (yy19 _ _) fun a E => lv E ok (y_load one_23 rfl (Holds.ro at18)) fun a E => mv E rfl fun a E => ?_
 obtain ⟨r22, e23, hF⟩ := bnd hF
 refine l_call E go_24 rfl (condition_Holds_w N _ x11 h21 number_1 lnumber_1 e23 hG ok) rfl rfl ?_
 rintro _ w ⟨⟨rfl, ok⟩, r24⟩
 refine ⟨_, rfl, fun a E => ?_⟩
 refine mv E rfl fun a E => lw E (y_extract rfl rfl) fun a E => lw E (y_extract rfl rfl) fun a E => av E rfl fun a E => aw E rfl fun a E => wp_seq ?_
 refine sg <| mv E rfl fun a E => lw E (y_neq rfl rfl) fun a E => wn <| cf E rfl hF (fun hc25 hF => ?_) fun hc25 hF => ?_
 ·refine sg <| aw E rfl fun a E => wp_ret <| t_ret <| b_ret ?_
  refine t_ret ?_
  obtain rfl := sj hF
  exact so (sr ⟨rfl, ⟨ok, E.d, ⟨rv_t E rfl, trivial⟩, (ir (-1))⟩⟩)
 refine wp_skip <| t_norm <| sg <| mv E rfl fun a E => wn <| cf E rfl hF (fun hc26 hF => ?_) fun hc26 hF => ?_
 rotate_left
 ·refine wp_skip <| b_norm <| t_norm <| c_region <| lw E (y_add rfl rfl (InR.inc r9 (pL_InR hl_0) hc10)) fun a E => mv E rfl fun a E => wpList_nil ?_
  obtain rfl := sj hF
  exact step_n ⟨ok, E.keep [0, 1, 5, 10, 11], r8, (InR.inc r9 (pL_InR hl_0) hc10)⟩
 refine c_region <| mv E rfl fun a E => lw E (y_addw rfl rfl) fun a E => av E rfl fun a E => wpList_nil <| b_norm <| t_norm <| c_region ?_
 refine lw E (y_add rfl rfl (InR.inc r9 (pL_InR hl_0) hc10)) fun a E => mv E rfl fun a E => wpList_nil ?_
 obtain rfl := sj hF
 exact step_n ⟨ok, E.keep [0, 1, 5, 10, 11], (InR.wrap _ _), (InR.inc r9 (pL_InR hl_0) hc10)⟩
def calquelaw10_DecideDisjoint_R (u : World) (m0 : Mem) (S : Segs) (r : Bool) (a : Act) (w : World) : Prop :=
 Ok u m0 S w ∧ a.defers = [] ∧ RVs Tryz.prog a w [.t 4 (.bool r)]
theorem calquelaw10_DecideDisjoint_w (N : Nat) (vl_0 : Value) (l_0 : List (List (List (Relation)))) (hl_0 : (pL 1 (pL 1 (pL 4 pRelation))) m0 [vl_0] l_0) (number_1 : List UInt8) (lnumber_1 : number_1.length ≤ LIMS) {r : Bool} (hF : calquelaw10_DecideDisjoint N l_0 number_1 = some r) (hG : Glob u) (hTb : Tab u) (ok : Ok u m0 S w) :
  Calls Tryz.prog 4 [vl_0, Value.string (bs number_1)].toArray w fun e w' => (e = .returned (.bool r) ∧ Ok u m0 S w') := by
 have le_m0 := Mem.le.refl m0
 unfold calquelaw10_DecideDisjoint at hF
 refine en (calquelaw10_DecideDisjoint_R u m0 S) r Tryz.func4 rfl rfl rfl (by rintro a w ⟨ok, hd, hrv⟩; exact c_ret2 [.t 4 (.bool r)] hd rfl hrv ⟨rfl, ok⟩) fun fin a E => sg <| aw E rfl fun a E => wp_seq <| wp_seq ?_
 refine c_region ?_
 obtain ⟨r1, e2, hF⟩ := bnd hF
 refine lc E go_10 rfl (calquelaw10_awake_w N  e2 hG hTb ok) fun w ok a E => lw E (y_not rfl) fun a E => mv E rfl fun a E => bsplit (!r1) (fun hc3 => ?_) (fun hc3 => ?_)
 ·replace hF := cond_t hc3 hF
  replace E := E.upd 17 hc3 rfl
  refine ls E fun a E => ls E fun a E => ls E fun a E => pt E rfl rfl fun a E => wn <| c_if E rfl (fun _ => ?_) (fun h => by cases h)
  refine sg ?_
  obtain ⟨r4, e5, hF⟩ := bnd hF
  refine lc E go_10 rfl (calquelaw10_awake_w N  e5 hG hTb ok) fun w ok a E => aw E rfl fun a E => wp_ret <| t_ret ?_
  exact fin hF ⟨ok, E.d, ⟨rv_t E rfl, trivial⟩⟩
 replace hF := cond_f hc3 hF
 replace E := E.upd 17 hc3 rfl
 refine mv E rfl fun a E => ?_
 obtain ⟨r6, e7, hF⟩ := bnd hF
 refine lc E go_11 rfl (calquelaw10_few_w N _ l_0 hl_0 e7 hG ok) fun w ok a E => lw E (y_not rfl) fun a E => pf E rfl rfl fun a E => wn <| cf E rfl hF (fun hc8 hF => ?_) fun hc8 hF => ?_
 ·refine sg ?_
  obtain ⟨r9, e10, hF⟩ := bnd hF
  refine lc E go_10 rfl (calquelaw10_awake_w N  e10 hG hTb ok) fun w ok a E => aw E rfl fun a E => wp_ret <| t_ret ?_
  exact fin hF ⟨ok, E.d, ⟨rv_t E rfl, trivial⟩⟩
 refine wp_skip <| t_norm <| sg <| aw E rfl fun a E => wp_seq ?_
 refine sg <| mv E rfl fun a E => lv E ok (y_lenL sl_26 hl_0 rfl) fun a E => mv E rfl fun a E => wn <| wp_block ?_
 obtain ⟨M16, ok, h17⟩ := nilrow (e := 45) (k := 2) (R := pRule) ok
 obtain ⟨o18, hL, hF⟩ := bnd hF
 refine c_loop _ (fun (s : (List (Rule)) × Int) a w => ∃ c19 M20, Ok u m0 (M20 :: S) w ∧ Env 96 a [(0, vl_0), (1, vs number_1), (5, c19), (24, (vi (l_0.length : Int))), (25, vi s.2)] ∧ ORow 45 2 pRule m0 c19 s.1 M20 ∧ InR .i64 s.2) (fun (b : ((List (Rule)))) e a w => e = (.exit 0) ∧ ∃ c147 M148, Ok u m0 (M148 :: S) w ∧ Env 96 a [(0, vl_0), (1, vs number_1), (5, c147)] ∧ ORow 45 2 pRule m0 c147 b M148) ?_ ?_ N _ a w hL ⟨(Value.slice none 0 0), M16, ok, E.keep [0, 1, 5, 24, 25], h17, (ir 0)⟩
 ·rintro ⟨rules_23, x_24⟩ a w r ⟨c25, M26, ok, E, h27, r28⟩ hF
  replace hF : calquelaw10_DecideDisjoint_b1 N l_0 rules_23 x_24 = some r := hF
  unfold calquelaw10_DecideDisjoint_b1 at hF
  refine sg <| lw E (y_lss rfl rfl) fun a E => wn <| wp_seq <| cf E rfl hF (fun hc29 hF => ?_) fun hc29 hF => ?_
  rotate_left
  ·refine wp_exit <| t_exit ?_
   obtain rfl := sj hF
   exact so (⟨rfl, ⟨c25, M26, ok, E.keep [0, 1, 5], h27⟩⟩)
  refine wp_skip <| t_norm <| wp_seq <| wp_block <| sg <| mv E rfl fun a E => av E rfl fun a E => ?_
  refine wn <| c_region <| mv E rfl fun a E => mv E rfl fun a E => mv E rfl fun a E => ?_
  obtain ⟨x30, e31, hF⟩ := bnd hF
  obtain ⟨b32, o33, es34, hl35, rr36, at37, yy38⟩ := idxAt sl_26 hl_0 e31 (P := Tryz.prog) (X := .tmp 29) (I := .tmp 30) (kd := .i64) (ev_of E rfl) (ev_of E rfl)
  obtain ⟨c39, rfl, h40⟩ := pL_cell rr36
  refine lv E ok (yy38 _ _) fun a E => lv E ok (y_load one_23 rfl (Holds.ro at37)) fun a E => lw E (y_build (ps := [(0, .const (vs ([102, 101, 119]))), (1, .tmp 32)]) (qs := [(0, [(vs ([102, 101, 119]))]), (1, [c39])]) (cs := [(vs ([102, 101, 119])), c39]) zero_45 places_45 rfl ⟨rfl, rfl, rfl, ⟨rfl, (pL_cells h40), rfl, trivial⟩⟩ rfl) fun a E => l_slit (R := pRule) (xo := [.tmp 33]) (xs := ([(Rule.mk ([102, 101, 119]) x30)] : List (Rule))) E ok sl_43 zero_45 rfl ⟨⟨_, rfl, rfl, ⟨_, rfl, (show ([102, 101, 119] : List UInt8).length ≤ LIMS by decide), h40⟩⟩, trivial⟩ rfl rfl rfl rfl fun c41 M42 a w E ok h43 => ?_
  obtain ⟨l44, e45, hF⟩ := bnd hF
  refine l_app (R := pRule) E ok 1 mRule sl_43 Tryz.underlying43 rfl h27 (SrcOK.ofRow h43 0 rfl ok) e45 ⟨_, zero_45, rfl⟩ rfl rfl rfl rfl fun c46 M47 a w E ok h48 => av E rfl fun a E => wpList_nil <| b_norm <| t_norm <| c_region <| lw E (y_add rfl rfl (InR.inc r28 (pL_InR hl_0) hc29)) fun a E => mv E rfl fun a E => ?_
  refine wpList_nil ?_
  obtain rfl := sj hF
  exact step_n ⟨c46, M47, (ok.pk 2 [1] rfl (by decide)), E.keep [0, 1, 5, 24, 25], h48, (InR.inc r28 (pL_InR hl_0) hc29)⟩
 intro e a w _ hO
 obtain ⟨rfl, c49, M50, ok, E, h51⟩ := hO
 refine b_hit <| t_norm <| sg <| mv E rfl fun a E => ?_
 obtain ⟨r57, e58, hF⟩ := bnd hF
 obtain ⟨m52, hle54, ok53, hfz55⟩ := (ok.frs 0 rfl).freeze
 have h56 := ORow.froz mRule h51 hle54 hfz55 (by decide)
 refine l_call E go_19 rfl (decide_Disjoint_w N _ o18 h56 e58 hG hTb ok53) rfl rfl ?_
 rintro _ w ⟨⟨rfl, okz⟩, r59, r60, l61, r62⟩
 replace ok := (Ok.thawAt 0 rfl ok hle54 hfz55 okz)
 refine ⟨_, rfl, fun a E => ?_⟩
 refine mv E rfl fun a E => lw E (y_extract rfl rfl) fun a E => lw E (y_extract rfl rfl) fun a E => lw E (y_extract rfl rfl) fun a E => lw E (y_extract rfl rfl) fun a E => av E rfl fun a E => av E rfl fun a E => av E rfl fun a E => ?_
 refine aw E rfl fun a E => sg <| mv E rfl fun a E => ?_
 obtain ⟨r68, e69, hF⟩ := bnd hF
 obtain ⟨m63, hle65, ok64, hfz66⟩ := (ok.frs 0 rfl).freeze
 have h67 := ORow.froz mRule h51 hle65 hfz66 (by decide)
 refine l_call E go_20 rfl (calqueref10_Disjoint_w N _ o18 h67 e69 hG ok64) rfl rfl ?_
 rintro _ w ⟨⟨rfl, okz⟩, r70, r71, l72, r73⟩
 replace ok := (Ok.thawAt 0 rfl ok hle65 hfz66 okz)
 refine ⟨_, rfl, fun a E => ?_⟩
 refine mv E rfl fun a E => lw E (y_extract rfl rfl) fun a E => lw E (y_extract rfl rfl) fun a E => lw E (y_extract rfl rfl) fun a E => lw E (y_extract rfl rfl) fun a E => av E rfl fun a E => av E rfl fun a E => av E rfl fun a E => ?_
 refine aw E rfl fun a E => wp_seq <| sg <| mv E rfl fun a E => mv E rfl fun a E => ?_
 refine lw E (y_neq rfl rfl) fun a E => mv E rfl fun a E => bsplit (r57.1 != r68.1) (fun hc74 => ?_) (fun hc74 => ?_)
 ·replace hF := cond_t hc74 hF
  replace E := E.upd 54 hc74 rfl
  refine ls E fun a E => ls E fun a E => ls E fun a E => pt E rfl rfl fun a E => mv E rfl fun a E => ls E fun a E => ls E fun a E => ls E fun a E => ?_
  refine pt E rfl rfl fun a E => mv E rfl fun a E => ls E fun a E => ls E fun a E => ls E fun a E => pt E rfl rfl fun a E => wn ?_
  refine c_if E rfl (fun _ => ?_) (fun h => by cases h)
  refine sg <| aw E rfl fun a E => wp_ret <| t_ret ?_
  exact fin hF ⟨ok.drop, E.d, ⟨rv_t E rfl, trivial⟩⟩
 replace hF := cond_f hc74 hF
 replace E := E.upd 54 hc74 rfl
 refine mv E rfl fun a E => mv E rfl fun a E => lw E (y_neq rfl rfl) fun a E => pf E rfl rfl fun a E => mv E rfl fun a E => bsplit (r57.2.1 != r68.2.1) (fun hc75 => ?_) (fun hc75 => ?_)
 ·replace hF := cond_t hc75 hF
  replace E := E.upd 59 hc75 rfl
  refine ls E fun a E => ls E fun a E => ls E fun a E => pt E rfl rfl fun a E => mv E rfl fun a E => ls E fun a E => ls E fun a E => ls E fun a E => ?_
  refine pt E rfl rfl fun a E => wn <| c_if E rfl (fun _ => ?_) (fun h => by cases h)
  refine sg <| aw E rfl fun a E => wp_ret <| t_ret ?_
  exact fin hF ⟨ok.drop, E.d, ⟨rv_t E rfl, trivial⟩⟩
 replace hF := cond_f hc75 hF
 replace E := E.upd 59 hc75 rfl
 refine mv E rfl fun a E => mv E rfl fun a E => lw E (y_sneq rfl rfl) fun a E => pf E rfl rfl fun a E => mv E rfl fun a E => bsplit (r57.2.2.1 != r68.2.2.1) (fun hc76 => ?_) (fun hc76 => ?_)
 ·replace hF := cond_t hc76 hF
  replace E := E.upd 64 hc76 rfl
  refine ls E fun a E => ls E fun a E => ls E fun a E => pt E rfl rfl fun a E => wn <| c_if E rfl (fun _ => ?_) (fun h => by cases h)
  refine sg <| aw E rfl fun a E => wp_ret <| t_ret ?_
  exact fin hF ⟨ok.drop, E.d, ⟨rv_t E rfl, trivial⟩⟩
 replace hF := cond_f hc76 hF
 replace E := E.upd 64 hc76 rfl
 refine mv E rfl fun a E => mv E rfl fun a E => lw E (y_neq rfl rfl) fun a E => pf E rfl rfl fun a E => wn <| cf E rfl hF (fun hc77 hF => ?_) fun hc77 hF => ?_
 ·refine sg <| aw E rfl fun a E => wp_ret <| t_ret ?_
  exact fin hF ⟨ok.drop, E.d, ⟨rv_t E rfl, trivial⟩⟩
 refine wp_skip <| t_norm <| wp_seq <| sg <| mv E rfl fun a E => lw E (y_eql rfl rfl) fun a E => wpList_nil ?_
 refine t_norm <| cf E rfl hF (fun hc78 hF => ?_) fun hc78 hF => ?_
 ·refine wp_seq ?_
  obtain ⟨o79, hJ, hF⟩ := bnd hF
  refine c_mono (Q' := fun e a w => e = .normal ∧ Ok u m0 (M50 :: S) w ∧ Env 96 a [(4, vb o79)]) ?_ ?_
  rotate_left
  ·clear hJ
   intro e a w hO
   obtain ⟨rfl, ok, E⟩ := hO
   refine t_norm <| wp_ret <| t_ret ?_
   exact fin hF ⟨ok.drop, E.d, ⟨rv_t E rfl, trivial⟩⟩
  replace hF := hJ
  clear hJ
  obtain ⟨x80, e81, hF⟩ := bnd hF
  obtain ⟨x91, e92, hF⟩ := bnd hF
  obtain ⟨r110, e111, hF⟩ := bnd hF
  obtain rfl := sj hF
  refine k_begin [] (Cls u m0 (M50 :: [])) (Cls u m0 (M50 :: [])) (by kernel_rfl) ?_
  intro w hw
  replace ok := okdrew ok hw
  clear hw
  refine k_next (cl1 (cq le_m0 ok [0] rfl) (cq le_m0 ok [0] rfl)) fun hT => kt 0 E rfl hT (y_move rfl) fun a E => kt 1 E rfl hT (y_move rfl) fun a E => ?_
  obtain ⟨b113, o114, es115, hl116, rr117, at118, yy119⟩ := idxAt sl_26 hl_0 e81 (P := Tryz.prog) (X := .tmp 71) (I := .tmp 72) (kd := .i64) (ev_of E rfl) (ev_of E rfl)
  obtain ⟨c120, rfl, h121⟩ := pL_cell rr117
  refine kt 2 E rfl hT (yy119 _ _) fun a E => kt 3 E rfl hT (y_load one_23 rfl (Holds.cro at118)) fun a E => kt 4 E rfl hT (y_move rfl) fun a E => kt 5 E rfl hT (y_move rfl) fun a E => ?_
  obtain ⟨b122, o123, es124, hl125, rr126, at127, yy128⟩ := idxAt sl_26 hl_0 e92 (P := Tryz.prog) (X := .tmp 75) (I := .tmp 76) (kd := .i64) (ev_of E rfl) (ev_of E rfl)
  obtain ⟨c129, rfl, h130⟩ := pL_cell rr126
  refine kt 6 E rfl hT (yy128 _ _) fun a E => kt 7 E rfl hT (y_load one_23 rfl (Holds.cro at127)) fun a E => kt 9 E rfl hT (y_move rfl) fun a E => k_all [8] (by kernel_rfl) rfl (one_c ?_)
  ·refine wo rfl <| l_slit (R := (pL 1 (pL 4 pRelation))) (xo := [.tmp 74, .tmp 78]) (xs := ([x80, x91] : List (List (List (Relation))))) E ok sl_26 zero_23 rfl ⟨⟨_, (pL_cells h121), rfl, h121⟩, ⟨_, (pL_cells h130), rfl, h130⟩, trivial⟩ rfl rfl rfl rfl fun c131 M132 a w E ok h133 => wn <| k_next (cl1 (cq le_m0 ok [1] rfl) (cq le_m0 ok [1] rfl)) fun hT => k_all [10] (by kernel_rfl) rfl (one_c ?_)
   ·refine wpOp_of_list (o := _) rfl ?_
    obtain ⟨m134, hle136, ok135, hfz137⟩ := (ok.frs 0 rfl).freeze
    have h138 := ORow.froz (mL (mL mRelation)) h133 hle136 hfz137 (by decide)
    refine l_call E go_21 rfl (calquelaw10_count_w N _ ([x80, x91] : List (List (List (Relation)))) h138 r57.2.2.1 l61 e111 hG ok135) rfl rfl ?_
    rintro _ w ⟨⟨rfl, okz⟩, r139⟩
    replace ok := (Ok.thawAt 0 rfl ok hle136 hfz137 okz)
    refine ⟨_, rfl, fun a E => ?_⟩
    refine wn <| k_next (cl1 (cq le_m0 ok [1] rfl) (cq le_m0 ok [1] rfl)) fun hT => kt 11 E rfl hT (y_eql rfl rfl) fun a E => kt 12 E rfl hT (y_assign rfl) fun a E => k_done (by kernel_rfl) ?_
    exact ⟨rfl, ⟨(ok.pk 2 [1] rfl (by decide)), E.keep [4]⟩⟩
 refine wp_skip <| t_norm <| sg <| mv E rfl fun a E => lw E (y_neq rfl rfl) fun a E => mv E rfl fun a E => bsplit (r57.2.2.2 != 0) (fun hc140 => ?_) (fun hc140 => ?_)
 ·replace hF := cond_t hc140 hF
  replace E := E.upd 85 hc140 rfl
  refine ls E fun a E => ls E fun a E => ls E fun a E => pt E rfl rfl fun a E => mv E rfl fun a E => ls E fun a E => ls E fun a E => ls E fun a E => ?_
  refine ls E fun a E => pt E rfl rfl fun a E => aw E rfl fun a E => wp_ret ?_
  exact fin hF ⟨ok.drop, E.d, ⟨rv_t E rfl, trivial⟩⟩
 replace hF := cond_f hc140 hF
 replace E := E.upd 85 hc140 rfl
 refine mv E rfl fun a E => ?_
 obtain ⟨r141, e142, hF⟩ := bnd hF
 refine lc E go_22 rfl (calqueref10_Unsigned_w N number_1 lnumber_1 e142 hG ok) fun w ok a E => lw E (y_not rfl) fun a E => pf E rfl rfl fun a E => mv E rfl fun a E => bsplit (!r141) (fun hc143 => ?_) (fun hc143 => ?_)
 ·replace hF := cond_t hc143 hF
  replace E := E.upd 90 hc143 rfl
  refine ls E fun a E => ls E fun a E => ls E fun a E => ls E fun a E => pt E rfl rfl fun a E => aw E rfl fun a E => ?_
  refine wp_ret ?_
  exact fin hF ⟨ok.drop, E.d, ⟨rv_t E rfl, trivial⟩⟩
 replace hF := cond_f hc143 hF
 replace E := E.upd 90 hc143 rfl
 refine mv E rfl fun a E => mv E rfl fun a E => ?_
 obtain ⟨r144, e145, hF⟩ := bnd hF
 refine l_call E go_21 rfl (calquelaw10_count_w N _ l_0 hl_0 number_1 lnumber_1 e145 hG ok) rfl rfl ?_
 rintro _ w ⟨⟨rfl, ok⟩, r146⟩
 refine ⟨_, rfl, fun a E => ?_⟩
 refine lw E (y_leq rfl rfl) fun a E => pf E rfl rfl fun a E => aw E rfl fun a E => wp_ret ?_
 exact fin hF ⟨ok.drop, E.d, ⟨rv_t E rfl, trivial⟩⟩
end Go.Proofs.YtidfofhmnlhfjaaGreatDoor
namespace Go.X
open Go.ChangeShapes Go.RowKit
def hm (W : World) : Mem := fun b => W.heap[b]?
theorem hm_cell {W : World} {a : Addr} {v : Value} (h : W.cell? a = some v) : (hm W).cell a = some v := h
theorem Ok.start (W : World) : Ok W (hm W) [] W :=
  ⟨rfl, rfl, rfl, fun _ _ h => h, fun _ (h : _ ∈ []) => absurd h List.not_mem_nil, List.Pairwise.nil, fun _ _ h => h⟩
theorem Ok.below {W W' : World} {S : Segs} (h : Ok W (hm W) S W') : Below W.heap.size W W' := by
  refine ⟨h.os, h.tape, h.out, ?_, fun k hk => ?_⟩
  · by_cases h0 : W.heap.size = 0
    · omega
    · have := h.ro (W.heap.size - 1) (W.heap[W.heap.size - 1]'(by omega)) (by unfold hm; simp)
      have := (Array.getElem?_eq_some_iff.1 this).1
      omega
  · have := h.ro k W.heap[k] (by unfold hm; simp [hk])
    rw [this]; simp [hk]
def Opn {α : Type} (P : Program) (t : TypeId) (R : Rp α) : Prop :=
  ∀ {H : Type} {enc : TypeId × Value → H} {W : World} {base : Nat} {spare : Nat → Bool} {held : Bool} {fuel : Nat} {cs : List Value} {x : DataW H × List MemPlace},
    DataW.trod enc P W base spare held fuel t cs = some x → ∃ a : α, R (hm W) cs a
theorem add_add (a : Addr) (i j : Nat) : a.add (i + j) = (a.add i).add j := by
  unfold Addr.add
  by_cases hi : i = 0 <;> by_cases hj : j = 0 <;> simp [hi, hj, Nat.add_assoc]
theorem add_none (b o i : Nat) : (⟨b, o, none⟩ : Addr).add i = ⟨b, o + i, none⟩ := by
  unfold Addr.add
  by_cases hi : i = 0 <;> simp [hi]
section
variable {P : Program} {t : TypeId}
theorem o_int {k : IntKind} (ht : P.underlying t = some (.int k)) : Opn P t (pI k) := fun h => by
  obtain ⟨n, rfl, _, hw⟩ := DataW.trod_int ht h
  refine ⟨n, rfl, ?_⟩
  simp only [Lit.wf, Bool.and_eq_true, decide_eq_true_eq] at hw
  exact hw
theorem o_bool (ht : P.underlying t = some .bool) : Opn P t pB := fun h => by
  obtain ⟨b, rfl, _⟩ := DataW.trod_bool ht h
  exact ⟨b, rfl⟩
theorem len2 {α : Type} {l : List α} (h : l.length = 2) : ∃ a b, l = [a, b] := match l, h with | [a, b], _ => ⟨a, b, rfl⟩
theorem len4 {α : Type} {l : List α} (h : l.length = 4) : ∃ a b c d, l = [a, b, c, d] := match l, h with | [a, b, c, d], _ => ⟨a, b, c, d, rfl⟩
end
end Go.X
namespace Go.X
variable {H : Type} {enc : TypeId × Value → H}
end Go.X
namespace Go.X
open Go.ChangeShapes Go.RowKit
def OpnS {α : Type} (P : Program) (t : TypeId) (R : Rp α) (Q : α → Prop) : Prop :=
  ∀ {H : Type} {enc : TypeId × Value → H} {W : World} {base : Nat} {spare : Nat → Bool} {held : Bool} {fuel : Nat} {cs : List Value} {x : DataW H × List MemPlace},
    DataW.trod enc P W base spare held fuel t cs = some x → (∀ n ∈ x.1.weights P t, n ≤ reachBytes) → ∃ a : α, R (hm W) cs a ∧ Q a
section
variable {P : Program} {t : TypeId}
theorem s_int {k : IntKind} (ht : P.underlying t = some (.int k)) : OpnS P t (pI k) (InR k) := fun h _ => by
  obtain ⟨a, ha⟩ := o_int ht h
  exact ⟨a, ha, ha.2⟩
theorem s_bool (ht : P.underlying t = some .bool) : OpnS P t pB (fun _ => True) := fun h _ => by
  obtain ⟨a, ha⟩ := o_bool ht h
  exact ⟨a, ha, trivial⟩
theorem s_str (ht : P.underlying t = some .string) : OpnS P t pS (fun s => s.length ≤ reachBytes) := fun h hz => by
  obtain ⟨s, rfl, rfl, hs⟩ := DataW.trod_string ht h
  refine ⟨s.data.toList, ⟨rfl, hs⟩, hz _ ?_⟩
  simp [DataW.weights]
theorem weightsAll_mem {H : Type} {e : TypeId} : ∀ {l : List (DataW H)} {d : DataW H}, d ∈ l → ∀ n ∈ d.weights P e, n ∈ DataW.weightsAll P e l
  | d0 :: l, d, h, n, hn => by
    simp only [DataW.weightsAll, List.mem_append]
    rcases List.mem_cons.1 h with rfl | h
    · exact .inl hn
    · exact .inr (weightsAll_mem h n hn)
  | [], _, h, _, _ => by cases h
theorem s_slice {α : Type} {e : TypeId} {n : Nat} {R : Rp α} {Q : α → Prop} (ht : P.underlying t = some (.slice e)) (hc : P.cellsOf e = n) (hn : 0 < n) (hb : 0 < P.bytesOf e) (he : OpnS P e R Q) : OpnS P t (pL n R) (fun xs => xs.length ≤ reachBytes ∧ ∀ y ∈ xs, Q y) := fun {H enc W base spare held fuel cs x} h hz => by
  rcases Go.Deep.open_slice ht h with ⟨rfl, _⟩ | ⟨a, len, cap, m, fu, D, Pl, rfl, _, hl, hm', hm2, rfl, hel⟩
  · exact ⟨[], ⟨none, 0, rfl, Nat.le_refl _, Nat.zero_le _, Nat.zero_le _, fun h => absurd rfl h⟩, Nat.zero_le _, fun _ h => by cases h⟩
  · rw [hc] at hel
    have hlm : len ≤ m := by rw [hm2]; split <;> omega
    have hlen : len ≤ reachBytes := by
      have h1 := hz (((List.range len).map D).length + ((List.range (m - len)).map fun j => D (len + j)).length |> (· * P.bytesOf e)) (by simp [DataW.weights, ht])
      simp only [List.length_map, List.length_range] at h1
      have h2 : len * 1 ≤ (len + (m - len)) * P.bytesOf e := Nat.mul_le_mul (by omega) hb
      omega
    have key : ∀ i, i < len → ∃ y : α, (∃ es : List Value, es.length = n ∧ (∀ j v, es[j]? = some v → W.cell? (a.add (i * n + j)) = some v) ∧ R (hm W) es y) ∧ Q y := by
      intro i hi
      obtain ⟨cs', h1, h2⟩ := hel i (by omega)
      obtain ⟨y, hy, hq⟩ := he h2 (fun k hk => hz k (by
        simp only [DataW.weights, ht, List.mem_cons, List.mem_append]
        exact .inr (.inl (weightsAll_mem (List.mem_map.2 ⟨i, List.mem_range.2 hi, rfl⟩) k hk))))
      obtain ⟨_, hlen, hcell⟩ := World.cells?_some h1
      refine ⟨y, ⟨cs', hlen, fun j v hj => ?_, hy⟩, hq⟩
      have hjn : j < n := by rw [← hlen]; exact (List.getElem?_eq_some_iff.1 hj).1
      have := hcell j hjn
      rw [hj] at this
      rw [add_add]
      exact this
    have pick : ∃ f : Fin len → α, ∀ i : Fin len, (∃ es : List Value, es.length = n ∧ (∀ j v, es[j]? = some v → W.cell? (a.add (i.1 * n + j)) = some v) ∧ R (hm W) es (f i)) ∧ Q (f i) :=
      ⟨fun i => (key i.1 i.2).choose, fun i => (key i.1 i.2).choose_spec⟩
    obtain ⟨f, hf⟩ := pick
    refine ⟨List.ofFn f, ⟨some a, cap, by rw [List.length_ofFn], by rw [List.length_ofFn]; exact hl, hm', ?_, fun h0 => ?_⟩, by rw [List.length_ofFn]; exact hlen, fun y hy => ?_⟩
    · rw [List.length_ofFn]; unfold maxLen at hm'; unfold LIMS; omega
    · rw [List.length_ofFn] at h0
      obtain ⟨b, off, spot⟩ := a
      have hs : spot = none := by
        obtain ⟨⟨es, e1, e2, _⟩, _⟩ := hf ⟨0, by omega⟩
        have hv : es[0]? = some (es[0]'(by omega)) := by simp
        have := e2 0 _ hv
        simpa [Addr.add] using World.cell?_spot this
      subst hs
      refine ⟨b, off, rfl, fun i y hy => ?_⟩
      obtain ⟨hi, rfl⟩ := List.getElem?_eq_some_iff.1 hy
      have hi' : i < len := by simpa using hi
      obtain ⟨⟨es, e1, e2, e3⟩, _⟩ := hf ⟨i, hi'⟩
      refine ⟨es, e1, fun j v hj => ?_, by simpa using e3⟩
      have := e2 j v hj
      refine hm_cell ?_
      rw [add_none] at this
      rw [Nat.add_assoc]
      exact this
    · obtain ⟨i, rfl⟩ := List.mem_ofFn.1 hy
      exact (hf i).2
theorem s_struct {fs : Array Field} (ht : P.underlying t = some (.struct fs)) {H : Type} {enc : TypeId × Value → H} {W : World} {base : Nat} {spare : Nat → Bool} {held : Bool} {fuel : Nat} {cs : List Value} {x : DataW H × List MemPlace}
    (h : DataW.trod enc P W base spare held fuel t cs = some x) (hz : ∀ n ∈ x.1.weights P t, n ≤ reachBytes) :
    cs.length = P.cellsOf t ∧ ∀ {α : Type} {R : Rp α} {Q : α → Prop} (i : Nat) (f : Field) (n : Nat), fs[i]? = some f → P.cellsOf f.type = n → OpnS P f.type R Q → ∃ a, R (hm W) ((cs.drop f.offset).take n) a ∧ Q a := by
  obtain ⟨xs, n, _, hx, hl, hlen, hf⟩ := DataW.trod_struct ht h
  refine ⟨hl, fun {α R Q} i f n hi hn ho => ?_⟩
  have hi' : i < xs.length := by rw [hlen]; exact (Array.getElem?_eq_some_iff.1 hi).1
  have := hf i f hi
  rw [List.getElem?_eq_getElem hi', hn] at this
  refine ho this fun k hk => hz k ?_
  subst hx
  simp only [DataW.weights, ht]
  refine DataW.weights_mem_each (j := i) (t := f.type) (d := xs[i].1) ?_ ?_ k hk
  · simp [hi]
  · simp [hi']
end
end Go.X
namespace Go.X
open Go.ChangeShapes Go.RowKit
section
variable {H : Type} {enc : TypeId × Value → H}
theorem returns_and_sizedX {a : Assume} {C : Checked} {os : Os} {f : FuncId} {fn : Func} {s : ChangeSpec} {conds : List PathCond} {apart fresh handsOn again : Bool} {X : World → Array Value → Prop}
    (hX : ∀ (w w' : World) (args : Array Value), w.heap = w'.heap → X w args → X w' args)
    (own : ownKnob C.prog.godebug = none) (started : os.Started) (noInit : C.prog.inits.idxOf? f = none) (hfn : C.prog.funcs[f]? = some fn)
    (witness : ∃ (w : World) (tape : Tape) (i : Input), w.os = os ∧ (w.forCall tape i).Shaped C.prog ∧ i.vars = [] ∧ Input.okWide C.prog (w.forCall tape i) .any w.heap.size f i ∧
      ((s.pre enc C.prog fn conds apart (w.forCall tape i).memory i.args ∧ X (w.forCall tape i).memory i.args) ∧ sizedMet enc C.prog fn (OpenSpec.ofChange s) apart (w.forCall tape i).memory i.args) ∧ a.holds C.prog (lone (Frame.enter C.prog f i.args .normal) [] (w.forCall tape i)))
    (contract : ∀ (W : World) (base : Nat) (args : Array Value) (ds gs : List (DataW H)) (before : List MemPlace),
      (∀ (j : Nat) t v, fn.params[j]? = some t → args[j]? = some v → Value.okWide C.prog W .any base t v) →
      DataW.Whole enc C.prog fn.params.toList s.vars apart W args.toList ds gs before → W.ShapedOpen C.prog →
      X W args → (DataW.weightsEach C.prog (fn.params.toList ++ s.plain.varTypes C.prog) (ds ++ gs)).all (· ≤ reachBytes) = true →
      Calls C.prog f args W fun e W' => ∃ v, e = .returned v ∧ s.post enc C.prog fn apart fresh handsOn again W args v W') :
    ReturnsInHanded a C os f .any (fun w args => (s.pre enc C.prog fn conds apart w args ∧ X w args) ∧ sizedMet enc C.prog fn (OpenSpec.ofChange s) apart w args) (s.post enc C.prog fn apart fresh handsOn again) := by
  refine returnsInHanded_of_calls own started noInit witness ?_
  intro w tape i _ hsh _ hok hpre _
  obtain ⟨_, _, _, fn', hfn', _, _, _, _, hval⟩ := hok
  have e : fn' = fn := Option.some.inj (hfn'.symm.trans hfn)
  subst e
  obtain ⟨⟨⟨ds, gs, before, hw, _⟩, hx⟩, hz⟩ := hpre
  have hw' := DataW.Whole.of_heap (w' := w.forCall tape i) (by rfl) hw
  refine (contract (w.forCall tape i) w.heap.size i.args ds gs before hval hw' hsh (hX _ _ _ (by rfl) hx) (hz.weights hw)).mono fun e W' ⟨v, he, hp⟩ => ?_
  subst he
  exact ChangeSpec.post_blind hp
end
end Go.X
namespace Go.X
open Go.ChangeShapes Go.RowKit
end Go.X
