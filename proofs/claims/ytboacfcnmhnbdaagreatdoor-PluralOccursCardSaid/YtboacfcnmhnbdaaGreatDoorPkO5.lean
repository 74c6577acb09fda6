/- Texts of this proof, put together by pack.py: what its declarations name. -/
import Derived.Test.YtboacfcnmhnbdaaGreatDoorPkO4
import Derived.Test.YtboacfcnmhnbdaaGreatDoorCards
import Derived.Test.YtboacfcnmhnbdaaGreatDoorChecked
import Derived.Test.YtboacfcnmhnbdaaGreatDoorProg
import Derived.Test.YtboacfcnmhnbdaaGreatDoorRows
import Derived.Test.YtboacfcnmhnbdaaGreatDoorTie
set_option linter.unusedVariables false
namespace Go.Proofs.YtboacfcnmhnbdaaGreatDoor
open Go.X
variable {u : World} {m0 : Mem} {S : Segs} {w : World}
set_option maxHeartbeats 4000000
set_option maxRecDepth 100000
def pNumber2 : Rp Number2 := fun _ cs x => cs = [.bool x.Neg, .string (bs x.Whole), .string (bs x.Frac)] ∧ x.Whole.length ≤ LIMS ∧ x.Frac.length ≤ LIMS
theorem agg_36 : aggB Tryz.prog 36 3 = true := by kernel_rfl
theorem fo_36_0 : fieldOffB Tryz.prog 36 0 0 = true := by kernel_rfl
theorem fo_36_1 : fieldOffB Tryz.prog 36 1 1 = true := by kernel_rfl
theorem fo_36_2 : fieldOffB Tryz.prog 36 2 2 = true := by kernel_rfl
theorem go_21 : goB Tryz.prog 21 = true := by kernel_rfl
theorem go_33 : goB Tryz.prog 33 = true := by kernel_rfl
theorem go_36 : goB Tryz.prog 36 = true := by kernel_rfl
theorem go_45 : goB Tryz.prog 45 = true := by kernel_rfl
theorem go_46 : goB Tryz.prog 46 = true := by kernel_rfl
theorem inf_36 : ∃ i, Tryz.prog.info? 36 = some i ∧ i.size = 3 := ⟨_, rfl, by kernel_rfl⟩
theorem places_36 : placesB Tryz.prog 36 = some [(0, 1), (1, 1), (2, 1)] := by kernel_rfl
theorem zero_36 : zeroB Tryz.prog 36 = some [vb false, (vs ([])), (vs ([]))] := by kernel_rfl
def calqueref14_has_R (u : World) (m0 : Mem) (S : Segs) (r : Bool) (a : Act) (w : World) : Prop :=
 Ok u m0 S w ∧ a.defers = [] ∧ RVs Tryz.prog a w [.t 4 (.bool r)]
theorem calqueref14_has_w (N : Nat) (vl_0 : Value) (l_0 : List (List UInt8)) (hl_0 : (pL 1 pS) m0 [vl_0] l_0) (s_1 : List UInt8) (ls_1 : s_1.length ≤ LIMS) {r : Bool} (hF : calqueref14_has N l_0 s_1 = some r) (hG : Glob u) (ok : Ok u m0 S w) :
  Calls Tryz.prog 33 [vl_0, vs s_1].toArray w fun e w' => (e = .returned (.bool r) ∧ Ok u m0 S w') := by
 unfold calqueref14_has at hF
 refine en (calqueref14_has_R u m0 S) r Tryz.func33 rfl rfl rfl (by rintro a w ⟨ok, hd, hrv⟩; exact c_ret2 [.t 4 (.bool r)] hd rfl hrv ⟨rfl, ok⟩) fun fin a E => sg <| aw E rfl fun a E => wp_seq <| wp_seq ?_
 refine c_region <| aw E rfl fun a E => wp_block ?_
 obtain ⟨o2, hL, hF⟩ := bnd hF
 refine c_loop _ (fun (s : Int) a w => Ok u m0 (S) w ∧ Env 18 a [(0, vl_0), (1, vs s_1), (5, vi s)] ∧ InR .i64 s) (fun (b : (Unit ⊕ Bool)) e a w => (Sum.elim (fun b18 => e = (.exit 0) ∧ Ok u m0 (S) w ∧ Env 18 a []) (fun b19 => e = .ret ∧ calqueref14_has_R u m0 S b19 a w)) b) ?_ ?_ N _ a w hL ⟨ok, E.keep [0, 1, 5], (ir 0)⟩
 rotate_left
 ·intro e a w _ hO
  rcases o2 with o2 | o2
  rotate_left
  ·replace hF := elim_r hF
   obtain ⟨rfl, hret⟩ := hO
   refine b_ret <| t_ret ?_
   exact fin hF hret
  replace hF := elim_l hF
  obtain ⟨rfl, ok, E⟩ := hO
  refine b_hit <| t_norm <| sg <| aw E rfl fun a E => wp_ret ?_
  exact fin hF ⟨ok, E.d, ⟨rv_t E rfl, trivial⟩⟩
 rintro i_4 a w r ⟨ok, E, r5⟩ hF
 replace hF : calqueref14_has_b1 N l_0 s_1 i_4 = some r := hF
 unfold calqueref14_has_b1 at hF
 refine wp_seq <| sg <| mv E rfl fun a E => mv E rfl fun a E => lv E ok (y_lenL sl_32 hl_0 rfl) fun a E => lw E (y_lss rfl rfl) fun a E => wpList_nil ?_
 refine t_norm <| cf E rfl hF (fun hc6 hF => ?_) fun hc6 hF => ?_
 rotate_left
 ·refine wp_exit <| t_exit ?_
  obtain rfl := sj hF
  exact so (sl ⟨rfl, ⟨ok, E.keep []⟩⟩)
 refine wp_skip <| t_norm <| wp_seq <| wp_block <| sg <| mv E rfl fun a E => mv E rfl fun a E => ?_
 obtain ⟨x7, e8, hF⟩ := bnd hF
 obtain ⟨b9, o10, es11, hl12, rr13, at14, yy15⟩ := idxAt sl_32 hl_0 e8 (P := Tryz.prog) (X := .tmp 12) (I := .tmp 13) (kd := .i64) (ev_of E rfl) (ev_of E rfl)
 obtain ⟨rfl, l16⟩ := rr13
 refine lv E ok (yy15 _ _) fun a E => lv E ok (y_load one_9 rfl (Holds.ro at14)) fun a E => mv E rfl fun a E => lw E (y_seql rfl rfl) fun a E => wn <| cf E rfl hF (fun hc17 hF => ?_) fun hc17 hF => ?_
 rotate_left
 ·refine wp_skip <| b_norm <| t_norm <| c_region <| mv E rfl fun a E => lw E (y_add rfl rfl (InR.inc r5 (pL_InR hl_0) hc6)) fun a E => av E rfl fun a E => wpList_nil ?_
  obtain rfl := sj hF
  exact step_n ⟨ok, E.keep [0, 1, 5], (InR.inc r5 (pL_InR hl_0) hc6)⟩
 refine sg <| aw E rfl fun a E => wp_ret <| b_ret <| t_ret ?_
 obtain rfl := sj hF
 exact so (sr ⟨rfl, ⟨ok, E.d, ⟨rv_t E rfl, trivial⟩⟩⟩)
def calqueref07_digits_R (u : World) (m0 : Mem) (S : Segs) (r : Bool) (a : Act) (w : World) : Prop :=
 Ok u m0 S w ∧ a.defers = [] ∧ RVs Tryz.prog a w [.t 2 (.bool r)]
theorem calqueref07_digits_w (N : Nat) (s_0 : List UInt8) (ls_0 : s_0.length ≤ LIMS) {r : Bool} (hF : calqueref07_digits N s_0 = some r) (hG : Glob u) (ok : Ok u m0 S w) :
  Calls Tryz.prog 45 [vs s_0].toArray w fun e w' => (e = .returned (.bool r) ∧ Ok u m0 S w') := by
 unfold calqueref07_digits at hF
 refine en (calqueref07_digits_R u m0 S) r Tryz.func45 rfl rfl rfl (by rintro a w ⟨ok, hd, hrv⟩; exact c_ret2 [.t 2 (.bool r)] hd rfl hrv ⟨rfl, ok⟩) fun fin a E => sg <| aw E rfl fun a E => wp_seq <| wp_seq ?_
 refine c_region <| aw E rfl fun a E => wp_block ?_
 obtain ⟨o2, hL, hF⟩ := bnd hF
 refine c_loop _ (fun (s : Int) a w => Ok u m0 (S) w ∧ Env 20 a [(0, vs s_0), (3, vi s)] ∧ InR .i64 s) (fun (b : (Unit ⊕ Bool)) e a w => (Sum.elim (fun b13 => e = (.exit 0) ∧ Ok u m0 (S) w ∧ Env 20 a []) (fun b14 => e = .ret ∧ calqueref07_digits_R u m0 S b14 a w)) b) ?_ ?_ N _ a w hL ⟨ok, E.keep [0, 3], (ir 0)⟩
 rotate_left
 ·intro e a w _ hO
  rcases o2 with o2 | o2
  rotate_left
  ·replace hF := elim_r hF
   obtain ⟨rfl, hret⟩ := hO
   refine b_ret <| t_ret ?_
   exact fin hF hret
  replace hF := elim_l hF
  obtain ⟨rfl, ok, E⟩ := hO
  refine b_hit <| t_norm <| sg <| aw E rfl fun a E => wp_ret ?_
  exact fin hF ⟨ok, E.d, ⟨rv_t E rfl, trivial⟩⟩
 rintro i_4 a w r ⟨ok, E, r5⟩ hF
 replace hF : calqueref07_digits_b1 N s_0 i_4 = some r := hF
 unfold calqueref07_digits_b1 at hF
 refine wp_seq <| sg <| mv E rfl fun a E => mv E rfl fun a E => lw E (y_slen Tryz.underlying9 rfl) fun a E => lw E (y_lss rfl rfl) fun a E => wpList_nil ?_
 refine t_norm <| cf E rfl hF (fun hc6 hF => ?_) fun hc6 hF => ?_
 rotate_left
 ·refine wp_exit <| t_exit ?_
  obtain rfl := sj hF
  exact so (sl ⟨rfl, ⟨ok, E.keep []⟩⟩)
 refine wp_skip <| t_norm <| wp_seq <| wp_block <| sg <| mv E rfl fun a E => mv E rfl fun a E => ?_
 obtain ⟨c7, e8, hF⟩ := bnd hF
 refine lv E ok (y_index Tryz.underlying9 rfl rfl e8) fun a E => lw E (y_lss rfl rfl) fun a E => mv E rfl fun a E => bsplit (decide ((c7.toNat : Int) < 48)) (fun hc9 => ?_) (fun hc9 => ?_)
 ·replace hF := cond_t hc9 hF
  replace E := E.upd 14 hc9 rfl
  refine ls E fun a E => ls E fun a E => ls E fun a E => ls E fun a E => pt E rfl rfl fun a E => wn <| c_if E rfl (fun _ => ?_) (fun h => by cases h)
  refine sg <| aw E rfl fun a E => wp_ret <| b_ret <| t_ret ?_
  obtain rfl := sj hF
  exact so (sr ⟨rfl, ⟨ok, E.d, ⟨rv_t E rfl, trivial⟩⟩⟩)
 replace hF := cond_f hc9 hF
 replace E := E.upd 14 hc9 rfl
 refine mv E rfl fun a E => mv E rfl fun a E => ?_
 obtain ⟨c10, e11, hF⟩ := bnd hF
 refine lv E ok (y_index Tryz.underlying9 rfl rfl e11) fun a E => lw E (y_gtr rfl rfl) fun a E => pf E rfl rfl fun a E => wn <| cf E rfl hF (fun hc12 hF => ?_) fun hc12 hF => ?_
 rotate_left
 ·refine wp_skip <| b_norm <| t_norm <| c_region <| mv E rfl fun a E => lw E (y_add rfl rfl (InR.inc r5 (InR.len ls_0) hc6)) fun a E => av E rfl fun a E => wpList_nil ?_
  obtain rfl := sj hF
  exact step_n ⟨ok, E.keep [0, 3], (InR.inc r5 (InR.len ls_0) hc6)⟩
 refine sg <| aw E rfl fun a E => wp_ret <| b_ret <| t_ret ?_
 obtain rfl := sj hF
 exact so (sr ⟨rfl, ⟨ok, E.d, ⟨rv_t E rfl, trivial⟩⟩⟩)
def calqueref07_Zero_R (u : World) (m0 : Mem) (S : Segs) (r : Bool) (a : Act) (w : World) : Prop :=
 Ok u m0 S w ∧ a.defers = [] ∧ RVs Tryz.prog a w [.t 2 (.bool r)]
theorem calqueref07_Zero_w (N : Nat) (s_0 : List UInt8) (ls_0 : s_0.length ≤ LIMS) {r : Bool} (hF : calqueref07_Zero N s_0 = some r) (hG : Glob u) (ok : Ok u m0 S w) :
  Calls Tryz.prog 46 [vs s_0].toArray w fun e w' => (e = .returned (.bool r) ∧ Ok u m0 S w') := by
 unfold calqueref07_Zero at hF
 refine en (calqueref07_Zero_R u m0 S) r Tryz.func46 rfl rfl rfl (by rintro a w ⟨ok, hd, hrv⟩; exact c_ret2 [.t 2 (.bool r)] hd rfl hrv ⟨rfl, ok⟩) fun fin a E => sg <| aw E rfl fun a E => wp_seq <| wp_seq ?_
 refine c_region <| aw E rfl fun a E => wp_block ?_
 obtain ⟨o2, hL, hF⟩ := bnd hF
 refine c_loop _ (fun (s : Int) a w => Ok u m0 (S) w ∧ Env 14 a [(0, vs s_0), (3, vi s)] ∧ InR .i64 s) (fun (b : (Unit ⊕ Bool)) e a w => (Sum.elim (fun b10 => e = (.exit 0) ∧ Ok u m0 (S) w ∧ Env 14 a []) (fun b11 => e = .ret ∧ calqueref07_Zero_R u m0 S b11 a w)) b) ?_ ?_ N _ a w hL ⟨ok, E.keep [0, 3], (ir 0)⟩
 rotate_left
 ·intro e a w _ hO
  rcases o2 with o2 | o2
  rotate_left
  ·replace hF := elim_r hF
   obtain ⟨rfl, hret⟩ := hO
   refine b_ret <| t_ret ?_
   exact fin hF hret
  replace hF := elim_l hF
  obtain ⟨rfl, ok, E⟩ := hO
  refine b_hit <| t_norm <| sg <| aw E rfl fun a E => wp_ret ?_
  exact fin hF ⟨ok, E.d, ⟨rv_t E rfl, trivial⟩⟩
 rintro i_4 a w r ⟨ok, E, r5⟩ hF
 replace hF : calqueref07_Zero_b1 N s_0 i_4 = some r := hF
 unfold calqueref07_Zero_b1 at hF
 refine wp_seq <| sg <| mv E rfl fun a E => mv E rfl fun a E => lw E (y_slen Tryz.underlying9 rfl) fun a E => lw E (y_lss rfl rfl) fun a E => wpList_nil ?_
 refine t_norm <| cf E rfl hF (fun hc6 hF => ?_) fun hc6 hF => ?_
 rotate_left
 ·refine wp_exit <| t_exit ?_
  obtain rfl := sj hF
  exact so (sl ⟨rfl, ⟨ok, E.keep []⟩⟩)
 refine wp_skip <| t_norm <| wp_seq <| wp_block <| sg <| mv E rfl fun a E => mv E rfl fun a E => ?_
 obtain ⟨c7, e8, hF⟩ := bnd hF
 refine lv E ok (y_index Tryz.underlying9 rfl rfl e8) fun a E => lw E (y_neq rfl rfl) fun a E => wn <| cf E rfl hF (fun hc9 hF => ?_) fun hc9 hF => ?_
 rotate_left
 ·refine wp_skip <| b_norm <| t_norm <| c_region <| mv E rfl fun a E => lw E (y_add rfl rfl (InR.inc r5 (InR.len ls_0) hc6)) fun a E => av E rfl fun a E => wpList_nil ?_
  obtain rfl := sj hF
  exact step_n ⟨ok, E.keep [0, 3], (InR.inc r5 (InR.len ls_0) hc6)⟩
 refine sg <| aw E rfl fun a E => wp_ret <| b_ret <| t_ret ?_
 obtain rfl := sj hF
 exact so (sr ⟨rfl, ⟨ok, E.d, ⟨rv_t E rfl, trivial⟩⟩⟩)
def calqueref07_Split_R (u : World) (m0 : Mem) (S : Segs) (r : Number2 × Bool) (a : Act) (w : World) : Prop :=
 ∃ m1 v0, m0.le m1 ∧ Ok u m1 S w ∧ a.defers = [] ∧ RVs Tryz.prog a w [.c 2 36 (.agg v0.toArray), .t 3 (.bool r.2)] ∧ pNumber2 m1 v0 r.1
theorem calqueref07_Split_w (N : Nat) (s_0 : List UInt8) (ls_0 : s_0.length ≤ LIMS) {r : Number2 × Bool} (hF : calqueref07_Split N s_0 = some r) (hG : Glob u) (ok : Ok u m0 S w) :
  Calls Tryz.prog 21 [vs s_0].toArray w fun e w' => ∃ m1 v0, e = .returned (.tuple [(.agg v0.toArray), (.bool r.2)].toArray) ∧ m0.le m1 ∧ Ok u m1 S w' ∧ pNumber2 m1 v0 r.1 := by
 have le_m0 := Mem.le.refl m0
 unfold calqueref07_Split at hF
 refine en (calqueref07_Split_R u m0 S) r Tryz.func21 rfl rfl rfl (by rintro a w ⟨m1, v0, hle, ok, hd, hrv, h0⟩; exact c_ret2 [.c 2 36 (.agg v0.toArray), .t 3 (.bool r.2)] hd rfl hrv ⟨m1, v0, rfl, hle, ok, h0⟩) fun fin a E => sg <| l_alloc E ok zero_36 rfl rfl fun b1 a w E ok => aw E rfl fun a E => wp_seq ?_
 refine c_region <| l_alloc E ok zero_36 rfl rfl fun b2 a w E ok => wn <| wp_seq <| sg <| mv E rfl fun a E => ?_
 refine lw E (y_slen Tryz.underlying9 rfl) fun a E => lw E (y_gtr rfl rfl) fun a E => mv E rfl fun a E => bsplit (decide ((s_0.length : Int) > 0)) (fun hc3 => ?_) (fun hc3 => ?_)
 rotate_left
 ·as_aux_lemma =>
   replace hF := cond_f hc3 hF
   replace E := E.upd 9 hc3 rfl
   refine ls E fun a E => ls E fun a E => ls E fun a E => pf E rfl rfl fun a E => wn <| c_if E rfl (fun h => by cases h) (fun _ => ?_)
   refine wp_skip <| t_norm <| sg <| aw E rfl fun a E => wp_seq ?_
   refine wp_block ?_
   obtain ⟨o73, hL, hF⟩ := bnd hF
   refine c_loop _ (fun (s : Int) a w => Ok u m0 ([(b2, oc 36 [vb false, (vs ([])), (vs ([]))])] :: [(b1, oc 36 [vb false, (vs ([])), (vs ([]))])] :: S) w ∧ Env 98 a [(0, vs s_0), (2, vp b1), (4, vp b2), (5, vi s)] ∧ InR .i64 s) (fun (b : Int) e a w => e = (.exit 0) ∧ Ok u m0 ([(b2, oc 36 [vb false, (vs ([])), (vs ([]))])] :: [(b1, oc 36 [vb false, (vs ([])), (vs ([]))])] :: S) w ∧ Env 98 a [(0, vs s_0), (2, vp b1), (4, vp b2), (5, vi b)] ∧ InR .i64 b) ?_ ?_ N _ a w hL ⟨ok, E.keep [0, 2, 4, 5], (ir 0)⟩
   ·rintro k_75 a w r ⟨ok, E, r76⟩ hF
    replace hF : calqueref07_Split_b2 N s_0 k_75 = some r := hF
    unfold calqueref07_Split_b2 at hF
    refine wp_seq <| sg <| mv E rfl fun a E => mv E rfl fun a E => lw E (y_slen Tryz.underlying9 rfl) fun a E => lw E (y_lss rfl rfl) fun a E => mv E rfl fun a E => ?_
    refine bsplit (decide (k_75 < (s_0.length : Int))) (fun hc77 => ?_) (fun hc77 => ?_)
    rotate_left
    ·replace hF := cond_f hc77 hF
     replace E := E.upd 21 hc77 rfl
     refine ls E fun a E => ls E fun a E => ls E fun a E => ls E fun a E => pf E rfl rfl fun a E => wn <| c_if E rfl (fun h => by cases h) (fun _ => ?_)
     refine wp_exit <| t_exit ?_
     obtain rfl := sj hF
     exact so (⟨rfl, ⟨ok, E.keep [0, 2, 4, 5], r76⟩⟩)
    replace hF := cond_t hc77 hF
    replace E := E.upd 21 hc77 rfl
    refine mv E rfl fun a E => mv E rfl fun a E => ?_
    obtain ⟨c78, e79, hF⟩ := bnd hF
    refine lv E ok (y_index Tryz.underlying9 rfl rfl e79) fun a E => lw E (y_neq rfl rfl) fun a E => pt E rfl rfl fun a E => wn <| cf E rfl hF (fun hc80 hF => ?_) fun hc80 hF => ?_
    rotate_left
    ·refine wp_exit <| t_exit ?_
     obtain rfl := sj hF
     exact so (⟨rfl, ⟨ok, E.keep [0, 2, 4, 5], r76⟩⟩)
    refine wp_skip <| t_norm <| wp_block <| c_region <| mv E rfl fun a E => lw E (y_add rfl rfl (InR.inc r76 (InR.len ls_0) hc77)) fun a E => av E rfl fun a E => wpList_nil ?_
    refine b_norm ?_
    obtain rfl := sj hF
    exact step_n ⟨ok, E.keep [0, 2, 4, 5], (InR.inc r76 (InR.len ls_0) hc77)⟩
   intro e a w _ hO
   obtain ⟨rfl, ok, E, r81⟩ := hO
   refine b_hit <| t_norm <| sg <| mv E rfl fun a E => mv E rfl fun a E => ?_
   obtain ⟨s82, e83, hF⟩ := bnd hF
   refine lw E (y_sslice Tryz.underlying9 e83 rfl rfl ⟨_, rfl⟩) fun a E => fv E fo_36_1 rfl fun a E => l_storeB E ok 0 rfl rfl rfl inf_9 rfl rfl ⟨rfl, trivial⟩ rfl rfl fun w ok => wn <| wp_seq <| sg ?_
   refine mv E rfl fun a E => mv E rfl fun a E => lw E (y_slen Tryz.underlying9 rfl) fun a E => lw E (y_lss rfl rfl) fun a E => wn ?_
   obtain ⟨o84, hJ, hF⟩ := bnd hF
   refine c_mono (Q' := fun e a w => (Sum.elim (fun b85 => e = .normal ∧ Ok u m0 ([(b2, oc 36 [vb b85.Neg, vs b85.Whole, vs b85.Frac])] :: [(b1, oc 36 [vb false, (vs ([])), (vs ([]))])] :: S) w ∧ Env 98 a [(2, vp b1), (4, vp b2)] ∧ b85.Whole.length ≤ LIMS ∧ b85.Frac.length ≤ LIMS) (fun b88 => e = .ret ∧ calqueref07_Split_R u m0 S b88 a w)) o84) ?_ ?_
   ·replace hF := hJ
    clear hJ
    refine cf E rfl hF (fun hc89 hF => ?_) fun hc89 hF => ?_
    rotate_left
    ·refine wp_skip ?_
     obtain rfl := sj hF
     exact (sl ⟨rfl, ⟨ok, E.keep [2, 4], (Nat.le_trans (slc_len e83) ls_0), (Nat.zero_le _)⟩⟩)
    refine sg <| mv E rfl fun a E => mv E rfl fun a E => lw E (y_add rfl rfl (InR.inc r81 (InR.len ls_0) hc89)) fun a E => ?_
    obtain ⟨s90, e91, hF⟩ := bnd hF
    refine lw E (y_sslice Tryz.underlying9 e91 rfl ⟨_, rfl⟩ rfl) fun a E => fv E fo_36_2 rfl fun a E => l_storeB E ok 0 rfl rfl rfl inf_9 rfl rfl ⟨rfl, trivial⟩ rfl rfl fun w ok => wn <| sg <| fv E fo_36_2 rfl fun a E => ?_
    refine ld E ok one_9 0 rfl rfl rfl fun a E => lw E (y_slen Tryz.underlying9 rfl) fun a E => lw E (y_eql rfl rfl) fun a E => wn <| cf E rfl hF (fun hc92 hF => ?_) fun hc92 hF => ?_
    rotate_left
    ·refine wp_skip ?_
     obtain rfl := sj hF
     exact (sl ⟨rfl, ⟨ok, E.keep [2, 4], (Nat.le_trans (slc_len e83) ls_0), (Nat.le_trans (slc_len e91) ls_0)⟩⟩)
    refine sg <| lw E (y_build (ps := []) (qs := []) (cs := [vb false, (vs ([])), (vs ([]))]) zero_36 places_36 rfl trivial rfl) fun a E => l_storeB E ok 1 rfl rfl rfl inf_36 rfl rfl ⟨rfl, rfl, rfl, trivial⟩ rfl rfl fun w ok => aw E rfl fun a E => wp_ret ?_
    have hret : calqueref07_Split_R u m0 S ((Number2.mk false ([]) ([])), false) a w := ⟨m0, [vb false, (vs ([])), (vs ([]))], le_m0, ok.drop.drop, E.d, ⟨rv_c (cs := [vb false, (vs ([])), (vs ([]))]) E ok rfl agg_36 rfl (Holds.own 1 rfl rfl), rv_t E rfl, trivial⟩, ⟨rfl, (Nat.zero_le _), (Nat.zero_le _)⟩⟩
    obtain rfl := sj hF
    exact (sr ⟨rfl, hret⟩)
   clear hJ
   intro e a w hO
   rcases o84 with o84 | o84
   rotate_left
   ·replace hF := elim_r hF
    obtain ⟨rfl, hret⟩ := hO
    refine t_ret ?_
    exact fin hF hret
   replace hF := elim_l hF
   obtain ⟨rfl, ok, E, l93, l94⟩ := hO
   refine t_norm <| wp_seq <| sg <| fv E fo_36_1 rfl fun a E => ld E ok one_9 0 rfl rfl rfl fun a E => fv E fo_36_2 rfl fun a E => ld E ok one_9 0 rfl rfl rfl fun a E => ?_
   obtain ⟨s95, e96, hF⟩ := bnd hF
   refine lw E (y_cat rfl rfl e96) fun a E => ?_
   obtain ⟨r97, e98, hF⟩ := bnd hF
   refine lc E go_45 rfl (calqueref07_digits_w N s95 (cat_len e96) e98 hG ok) fun w ok a E => lw E (y_not rfl) fun a E => mv E rfl fun a E => bsplit (!r97) (fun hc99 => ?_) (fun hc99 => ?_)
   ·replace hF := cond_t hc99 hF
    replace E := E.upd 54 hc99 rfl
    refine ls E fun a E => ls E fun a E => ls E fun a E => ls E fun a E => pt E rfl rfl fun a E => mv E rfl fun a E => ls E fun a E => ls E fun a E => ?_
    refine ls E fun a E => ls E fun a E => pt E rfl rfl fun a E => mv E rfl fun a E => ls E fun a E => ls E fun a E => ls E fun a E => ls E fun a E => ?_
    refine ls E fun a E => ls E fun a E => ls E fun a E => ls E fun a E => ls E fun a E => ls E fun a E => pt E rfl rfl fun a E => mv E rfl fun a E => ?_
    refine ls E fun a E => ls E fun a E => ls E fun a E => ls E fun a E => pt E rfl rfl fun a E => mv E rfl fun a E => ls E fun a E => ls E fun a E => ?_
    refine ls E fun a E => ls E fun a E => ls E fun a E => ls E fun a E => ls E fun a E => ls E fun a E => ls E fun a E => ls E fun a E => ?_
    refine pt E rfl rfl fun a E => wn <| c_if E rfl (fun _ => ?_) (fun h => by cases h)
    refine sg <| lw E (y_build (ps := []) (qs := []) (cs := [vb false, (vs ([])), (vs ([]))]) zero_36 places_36 rfl trivial rfl) fun a E => l_storeB E ok 1 rfl rfl rfl inf_36 rfl rfl ⟨rfl, rfl, rfl, trivial⟩ rfl rfl fun w ok => aw E rfl fun a E => wp_ret ?_
    refine t_ret ?_
    exact fin hF ⟨m0, [vb false, (vs ([])), (vs ([]))], le_m0, ok.drop.drop, E.d, ⟨rv_c (cs := [vb false, (vs ([])), (vs ([]))]) E ok rfl agg_36 rfl (Holds.own 1 rfl rfl), rv_t E rfl, trivial⟩, ⟨rfl, (Nat.zero_le _), (Nat.zero_le _)⟩⟩
   replace hF := cond_f hc99 hF
   replace E := E.upd 54 hc99 rfl
   refine fv E fo_36_1 rfl fun a E => ld E ok one_9 0 rfl rfl rfl fun a E => lw E (y_slen Tryz.underlying9 rfl) fun a E => lw E (y_lss rfl rfl) fun a E => pf E rfl rfl fun a E => mv E rfl fun a E => bsplit (decide ((o84.Whole.length : Int) < 1)) (fun hc100 => ?_) (fun hc100 => ?_)
   ·replace hF := cond_t hc100 hF
    replace E := E.upd 60 hc100 rfl
    refine ls E fun a E => ls E fun a E => ls E fun a E => ls E fun a E => pt E rfl rfl fun a E => mv E rfl fun a E => ls E fun a E => ls E fun a E => ?_
    refine ls E fun a E => ls E fun a E => ls E fun a E => ls E fun a E => ls E fun a E => ls E fun a E => ls E fun a E => ls E fun a E => ?_
    refine pt E rfl rfl fun a E => mv E rfl fun a E => ls E fun a E => ls E fun a E => ls E fun a E => ls E fun a E => pt E rfl rfl fun a E => mv E rfl fun a E => ?_
    refine ls E fun a E => ls E fun a E => ls E fun a E => ls E fun a E => ls E fun a E => ls E fun a E => ls E fun a E => ls E fun a E => ?_
    refine ls E fun a E => ls E fun a E => pt E rfl rfl fun a E => wn <| c_if E rfl (fun _ => ?_) (fun h => by cases h)
    refine sg <| lw E (y_build (ps := []) (qs := []) (cs := [vb false, (vs ([])), (vs ([]))]) zero_36 places_36 rfl trivial rfl) fun a E => l_storeB E ok 1 rfl rfl rfl inf_36 rfl rfl ⟨rfl, rfl, rfl, trivial⟩ rfl rfl fun w ok => aw E rfl fun a E => wp_ret ?_
    refine t_ret ?_
    exact fin hF ⟨m0, [vb false, (vs ([])), (vs ([]))], le_m0, ok.drop.drop, E.d, ⟨rv_c (cs := [vb false, (vs ([])), (vs ([]))]) E ok rfl agg_36 rfl (Holds.own 1 rfl rfl), rv_t E rfl, trivial⟩, ⟨rfl, (Nat.zero_le _), (Nat.zero_le _)⟩⟩
   replace hF := cond_f hc100 hF
   replace E := E.upd 60 hc100 rfl
   refine fv E fo_36_1 rfl fun a E => ld E ok one_9 0 rfl rfl rfl fun a E => lw E (y_slen Tryz.underlying9 rfl) fun a E => lw E (y_gtr rfl rfl) fun a E => pf E rfl rfl fun a E => mv E rfl fun a E => bsplit (decide ((o84.Whole.length : Int) > 15)) (fun hc101 => ?_) (fun hc101 => ?_)
   ·replace hF := cond_t hc101 hF
    replace E := E.upd 66 hc101 rfl
    refine ls E fun a E => ls E fun a E => ls E fun a E => ls E fun a E => ls E fun a E => ls E fun a E => ls E fun a E => ls E fun a E => ?_
    refine ls E fun a E => ls E fun a E => pt E rfl rfl fun a E => mv E rfl fun a E => ls E fun a E => ls E fun a E => ls E fun a E => ls E fun a E => ?_
    refine pt E rfl rfl fun a E => mv E rfl fun a E => ls E fun a E => ls E fun a E => ls E fun a E => ls E fun a E => ls E fun a E => ls E fun a E => ?_
    refine ls E fun a E => ls E fun a E => ls E fun a E => ls E fun a E => pt E rfl rfl fun a E => wn <| c_if E rfl (fun _ => ?_) (fun h => by cases h)
    refine sg <| lw E (y_build (ps := []) (qs := []) (cs := [vb false, (vs ([])), (vs ([]))]) zero_36 places_36 rfl trivial rfl) fun a E => l_storeB E ok 1 rfl rfl rfl inf_36 rfl rfl ⟨rfl, rfl, rfl, trivial⟩ rfl rfl fun w ok => aw E rfl fun a E => wp_ret ?_
    refine t_ret ?_
    exact fin hF ⟨m0, [vb false, (vs ([])), (vs ([]))], le_m0, ok.drop.drop, E.d, ⟨rv_c (cs := [vb false, (vs ([])), (vs ([]))]) E ok rfl agg_36 rfl (Holds.own 1 rfl rfl), rv_t E rfl, trivial⟩, ⟨rfl, (Nat.zero_le _), (Nat.zero_le _)⟩⟩
   replace hF := cond_f hc101 hF
   replace E := E.upd 66 hc101 rfl
   refine fv E fo_36_1 rfl fun a E => ld E ok one_9 0 rfl rfl rfl fun a E => lw E (y_slen Tryz.underlying9 rfl) fun a E => lw E (y_gtr rfl rfl) fun a E => mv E rfl fun a E => bsplit (decide ((o84.Whole.length : Int) > 1)) (fun hc102 => ?_) (fun hc102 => ?_)
   rotate_left
   ·as_aux_lemma =>
     replace hF := cond_f hc102 hF
     replace E := E.upd 71 hc102 rfl
     refine ls E fun a E => ls E fun a E => ls E fun a E => ls E fun a E => pf E rfl rfl fun a E => pf E rfl rfl fun a E => mv E rfl fun a E => fv E fo_36_2 rfl fun a E => ?_
     refine ld E ok one_9 0 rfl rfl rfl fun a E => lw E (y_slen Tryz.underlying9 rfl) fun a E => lw E (y_gtr rfl rfl) fun a E => pf E rfl rfl fun a E => mv E rfl fun a E => bsplit (decide ((o84.Frac.length : Int) > 6)) (fun hc113 => ?_) (fun hc113 => ?_)
     ·replace hF := cond_t hc113 hF
      replace E := E.upd 84 hc113 rfl
      refine ls E fun a E => ls E fun a E => ls E fun a E => ls E fun a E => ls E fun a E => ls E fun a E => ls E fun a E => ls E fun a E => ?_
      refine ls E fun a E => ls E fun a E => pt E rfl rfl fun a E => wn <| c_if E rfl (fun _ => ?_) (fun h => by cases h)
      refine sg <| lw E (y_build (ps := []) (qs := []) (cs := [vb false, (vs ([])), (vs ([]))]) zero_36 places_36 rfl trivial rfl) fun a E => l_storeB E ok 1 rfl rfl rfl inf_36 rfl rfl ⟨rfl, rfl, rfl, trivial⟩ rfl rfl fun w ok => aw E rfl fun a E => wp_ret ?_
      refine t_ret ?_
      exact fin hF ⟨m0, [vb false, (vs ([])), (vs ([]))], le_m0, ok.drop.drop, E.d, ⟨rv_c (cs := [vb false, (vs ([])), (vs ([]))]) E ok rfl agg_36 rfl (Holds.own 1 rfl rfl), rv_t E rfl, trivial⟩, ⟨rfl, (Nat.zero_le _), (Nat.zero_le _)⟩⟩
     replace hF := cond_f hc113 hF
     replace E := E.upd 84 hc113 rfl
     refine fv E fo_36_0 rfl fun a E => ld E ok one_4 0 rfl rfl rfl fun a E => mv E rfl fun a E => bsplit o84.Neg (fun hc114 => ?_) (fun hc114 => ?_)
     rotate_left
     ·replace hF := cond_f hc114 hF
      replace E := E.upd 87 hc114 rfl
      refine ls E fun a E => ls E fun a E => ls E fun a E => ls E fun a E => ls E fun a E => ls E fun a E => pf E rfl rfl fun a E => pf E rfl rfl fun a E => ?_
      refine wn <| c_if E rfl (fun h => by cases h) (fun _ => ?_)
      refine wp_skip <| t_norm <| sg <| lv E ok (y_loadAgg (cs := [vb o84.Neg, vs o84.Whole, vs o84.Frac]) agg_36 rfl rfl (Holds.own 0 rfl rfl)) fun a E => l_storeB E ok 1 rfl rfl rfl inf_36 rfl rfl ⟨rfl, rfl, rfl, trivial⟩ rfl rfl fun w ok => av E rfl fun a E => wpList_nil ?_
      refine t_norm <| wp_ret ?_
      exact fin hF ⟨m0, [vb o84.Neg, vs o84.Whole, vs o84.Frac], le_m0, ok.drop.drop, E.d, ⟨rv_c (cs := [vb o84.Neg, vs o84.Whole, vs o84.Frac]) E ok rfl agg_36 rfl (Holds.own 1 rfl rfl), rv_t E rfl, trivial⟩, ⟨rfl, l93, l94⟩⟩
     replace hF := cond_t hc114 hF
     replace E := E.upd 87 hc114 rfl
     refine fv E fo_36_1 rfl fun a E => ld E ok one_9 0 rfl rfl rfl fun a E => fv E fo_36_2 rfl fun a E => ld E ok one_9 0 rfl rfl rfl fun a E => ?_
     obtain ⟨s115, e116, hF⟩ := bnd hF
     refine lw E (y_cat rfl rfl e116) fun a E => ?_
     obtain ⟨r117, e118, hF⟩ := bnd hF
     refine lc E go_46 rfl (calqueref07_Zero_w N s115 (cat_len e116) e118 hG ok) fun w ok a E => pt E rfl rfl fun a E => pf E rfl rfl fun a E => wn <| cf E rfl hF (fun hc119 hF => ?_) fun hc119 hF => ?_
     ·refine sg <| lw E (y_build (ps := []) (qs := []) (cs := [vb false, (vs ([])), (vs ([]))]) zero_36 places_36 rfl trivial rfl) fun a E => l_storeB E ok 1 rfl rfl rfl inf_36 rfl rfl ⟨rfl, rfl, rfl, trivial⟩ rfl rfl fun w ok => aw E rfl fun a E => wp_ret ?_
      refine t_ret ?_
      exact fin hF ⟨m0, [vb false, (vs ([])), (vs ([]))], le_m0, ok.drop.drop, E.d, ⟨rv_c (cs := [vb false, (vs ([])), (vs ([]))]) E ok rfl agg_36 rfl (Holds.own 1 rfl rfl), rv_t E rfl, trivial⟩, ⟨rfl, (Nat.zero_le _), (Nat.zero_le _)⟩⟩
     refine wp_skip <| t_norm <| sg <| lv E ok (y_loadAgg (cs := [vb o84.Neg, vs o84.Whole, vs o84.Frac]) agg_36 rfl rfl (Holds.own 0 rfl rfl)) fun a E => l_storeB E ok 1 rfl rfl rfl inf_36 rfl rfl ⟨rfl, rfl, rfl, trivial⟩ rfl rfl fun w ok => av E rfl fun a E => wpList_nil ?_
     refine t_norm <| wp_ret ?_
     exact fin hF ⟨m0, [vb o84.Neg, vs o84.Whole, vs o84.Frac], le_m0, ok.drop.drop, E.d, ⟨rv_c (cs := [vb o84.Neg, vs o84.Whole, vs o84.Frac]) E ok rfl agg_36 rfl (Holds.own 1 rfl rfl), rv_t E rfl, trivial⟩, ⟨rfl, l93, l94⟩⟩
   replace hF := cond_t hc102 hF
   replace E := E.upd 71 hc102 rfl
   refine fv E fo_36_1 rfl fun a E => ld E ok one_9 0 rfl rfl rfl fun a E => ?_
   obtain ⟨c103, e104, hF⟩ := bnd hF
   refine lv E ok (y_index Tryz.underlying9 rfl rfl e104) fun a E => lw E (y_eql rfl rfl) fun a E => pt E rfl rfl fun a E => pf E rfl rfl fun a E => mv E rfl fun a E => bsplit ((c103.toNat : Int) == 48) (fun hc105 => ?_) (fun hc105 => ?_)
   ·replace hF := cond_t hc105 hF
    replace E := E.upd 78 hc105 rfl
    refine ls E fun a E => ls E fun a E => ls E fun a E => ls E fun a E => pt E rfl rfl fun a E => mv E rfl fun a E => ls E fun a E => ls E fun a E => ?_
    refine ls E fun a E => ls E fun a E => ls E fun a E => ls E fun a E => ls E fun a E => ls E fun a E => ls E fun a E => ls E fun a E => ?_
    refine pt E rfl rfl fun a E => wn <| c_if E rfl (fun _ => ?_) (fun h => by cases h)
    refine sg <| lw E (y_build (ps := []) (qs := []) (cs := [vb false, (vs ([])), (vs ([]))]) zero_36 places_36 rfl trivial rfl) fun a E => l_storeB E ok 1 rfl rfl rfl inf_36 rfl rfl ⟨rfl, rfl, rfl, trivial⟩ rfl rfl fun w ok => aw E rfl fun a E => wp_ret ?_
    refine t_ret ?_
    exact fin hF ⟨m0, [vb false, (vs ([])), (vs ([]))], le_m0, ok.drop.drop, E.d, ⟨rv_c (cs := [vb false, (vs ([])), (vs ([]))]) E ok rfl agg_36 rfl (Holds.own 1 rfl rfl), rv_t E rfl, trivial⟩, ⟨rfl, (Nat.zero_le _), (Nat.zero_le _)⟩⟩
   replace hF := cond_f hc105 hF
   replace E := E.upd 78 hc105 rfl
   refine fv E fo_36_2 rfl fun a E => ld E ok one_9 0 rfl rfl rfl fun a E => lw E (y_slen Tryz.underlying9 rfl) fun a E => lw E (y_gtr rfl rfl) fun a E => pf E rfl rfl fun a E => mv E rfl fun a E => bsplit (decide ((o84.Frac.length : Int) > 6)) (fun hc106 => ?_) (fun hc106 => ?_)
   ·replace hF := cond_t hc106 hF
    replace E := E.upd 84 hc106 rfl
    refine ls E fun a E => ls E fun a E => ls E fun a E => ls E fun a E => ls E fun a E => ls E fun a E => ls E fun a E => ls E fun a E => ?_
    refine ls E fun a E => ls E fun a E => pt E rfl rfl fun a E => wn <| c_if E rfl (fun _ => ?_) (fun h => by cases h)
    refine sg <| lw E (y_build (ps := []) (qs := []) (cs := [vb false, (vs ([])), (vs ([]))]) zero_36 places_36 rfl trivial rfl) fun a E => l_storeB E ok 1 rfl rfl rfl inf_36 rfl rfl ⟨rfl, rfl, rfl, trivial⟩ rfl rfl fun w ok => aw E rfl fun a E => wp_ret ?_
    refine t_ret ?_
    exact fin hF ⟨m0, [vb false, (vs ([])), (vs ([]))], le_m0, ok.drop.drop, E.d, ⟨rv_c (cs := [vb false, (vs ([])), (vs ([]))]) E ok rfl agg_36 rfl (Holds.own 1 rfl rfl), rv_t E rfl, trivial⟩, ⟨rfl, (Nat.zero_le _), (Nat.zero_le _)⟩⟩
   replace hF := cond_f hc106 hF
   replace E := E.upd 84 hc106 rfl
   refine fv E fo_36_0 rfl fun a E => ld E ok one_4 0 rfl rfl rfl fun a E => mv E rfl fun a E => bsplit o84.Neg (fun hc107 => ?_) (fun hc107 => ?_)
   rotate_left
   ·replace hF := cond_f hc107 hF
    replace E := E.upd 87 hc107 rfl
    refine ls E fun a E => ls E fun a E => ls E fun a E => ls E fun a E => ls E fun a E => ls E fun a E => pf E rfl rfl fun a E => pf E rfl rfl fun a E => ?_
    refine wn <| c_if E rfl (fun h => by cases h) (fun _ => ?_)
    refine wp_skip <| t_norm <| sg <| lv E ok (y_loadAgg (cs := [vb o84.Neg, vs o84.Whole, vs o84.Frac]) agg_36 rfl rfl (Holds.own 0 rfl rfl)) fun a E => l_storeB E ok 1 rfl rfl rfl inf_36 rfl rfl ⟨rfl, rfl, rfl, trivial⟩ rfl rfl fun w ok => av E rfl fun a E => wpList_nil ?_
    refine t_norm <| wp_ret ?_
    exact fin hF ⟨m0, [vb o84.Neg, vs o84.Whole, vs o84.Frac], le_m0, ok.drop.drop, E.d, ⟨rv_c (cs := [vb o84.Neg, vs o84.Whole, vs o84.Frac]) E ok rfl agg_36 rfl (Holds.own 1 rfl rfl), rv_t E rfl, trivial⟩, ⟨rfl, l93, l94⟩⟩
   replace hF := cond_t hc107 hF
   replace E := E.upd 87 hc107 rfl
   refine fv E fo_36_1 rfl fun a E => ld E ok one_9 0 rfl rfl rfl fun a E => fv E fo_36_2 rfl fun a E => ld E ok one_9 0 rfl rfl rfl fun a E => ?_
   obtain ⟨s108, e109, hF⟩ := bnd hF
   refine lw E (y_cat rfl rfl e109) fun a E => ?_
   obtain ⟨r110, e111, hF⟩ := bnd hF
   refine lc E go_46 rfl (calqueref07_Zero_w N s108 (cat_len e109) e111 hG ok) fun w ok a E => pt E rfl rfl fun a E => pf E rfl rfl fun a E => wn <| cf E rfl hF (fun hc112 hF => ?_) fun hc112 hF => ?_
   ·refine sg <| lw E (y_build (ps := []) (qs := []) (cs := [vb false, (vs ([])), (vs ([]))]) zero_36 places_36 rfl trivial rfl) fun a E => l_storeB E ok 1 rfl rfl rfl inf_36 rfl rfl ⟨rfl, rfl, rfl, trivial⟩ rfl rfl fun w ok => aw E rfl fun a E => wp_ret ?_
    refine t_ret ?_
    exact fin hF ⟨m0, [vb false, (vs ([])), (vs ([]))], le_m0, ok.drop.drop, E.d, ⟨rv_c (cs := [vb false, (vs ([])), (vs ([]))]) E ok rfl agg_36 rfl (Holds.own 1 rfl rfl), rv_t E rfl, trivial⟩, ⟨rfl, (Nat.zero_le _), (Nat.zero_le _)⟩⟩
   refine wp_skip <| t_norm <| sg <| lv E ok (y_loadAgg (cs := [vb o84.Neg, vs o84.Whole, vs o84.Frac]) agg_36 rfl rfl (Holds.own 0 rfl rfl)) fun a E => l_storeB E ok 1 rfl rfl rfl inf_36 rfl rfl ⟨rfl, rfl, rfl, trivial⟩ rfl rfl fun w ok => av E rfl fun a E => wpList_nil ?_
   refine t_norm <| wp_ret ?_
   exact fin hF ⟨m0, [vb o84.Neg, vs o84.Whole, vs o84.Frac], le_m0, ok.drop.drop, E.d, ⟨rv_c (cs := [vb o84.Neg, vs o84.Whole, vs o84.Frac]) E ok rfl agg_36 rfl (Holds.own 1 rfl rfl), rv_t E rfl, trivial⟩, ⟨rfl, l93, l94⟩⟩
 replace hF := cond_t hc3 hF
 replace E := E.upd 9 hc3 rfl
 refine mv E rfl fun a E => ?_
 obtain ⟨c4, e5, hF⟩ := bnd hF
 refine lv E ok (y_index Tryz.underlying9 rfl rfl e5) fun a E => lw E (y_eql rfl rfl) fun a E => pt E rfl rfl fun a E => wn ?_
 obtain ⟨o6, hJ, hF⟩ := bnd hF
 refine c_mono (Q' := fun e a w => e = .normal ∧ Ok u m0 ([(b2, oc 36 [vb o6.2.Neg, vs o6.2.Whole, vs o6.2.Frac])] :: [(b1, oc 36 [vb false, (vs ([])), (vs ([]))])] :: S) w ∧ Env 98 a [(0, vs o6.1), (2, vp b1), (4, vp b2)] ∧ o6.1.length ≤ LIMS ∧ o6.2.Whole.length ≤ LIMS ∧ o6.2.Frac.length ≤ LIMS) ?_ ?_
 ·replace hF := hJ
  clear hJ
  refine cf E rfl hF (fun hc10 hF => ?_) fun hc10 hF => ?_
  rotate_left
  ·refine wp_skip ?_
   obtain rfl := sj hF
   exact ⟨rfl, ⟨ok, E.keep [0, 2, 4], ls_0, (Nat.zero_le _), (Nat.zero_le _)⟩⟩
  obtain ⟨o11, hJ, hF⟩ := bnd hF
  refine c_mono (Q' := fun e a w => e = .normal ∧ Ok u m0 ([(b2, oc 36 [vb o11.2.Neg, vs o11.2.Whole, vs o11.2.Frac])] :: [(b1, oc 36 [vb false, (vs ([])), (vs ([]))])] :: S) w ∧ Env 98 a [(0, vs o11.1), (2, vp b1), (4, vp b2)] ∧ o11.1.length ≤ LIMS ∧ o11.2.Whole.length ≤ LIMS ∧ o11.2.Frac.length ≤ LIMS) ?_ ?_
  rotate_left
  ·clear hJ
   intro e a w hO
   obtain ⟨rfl, ok, E, l17, l18, l19⟩ := hO
   obtain rfl := sj hF
   exact ⟨rfl, ⟨ok, E.keep [0, 2, 4], l17, l18, l19⟩⟩
  replace hF := hJ
  clear hJ
  obtain ⟨s15, e16, hF⟩ := bnd hF
  obtain rfl := sj hF
  refine k_begin [] (Cls u m0 ([(b1, oc 36 [vb false, (vs ([])), (vs ([]))])] :: [])) (Cls u m0 ([(b1, oc 36 [vb false, (vs ([])), (vs ([]))])] :: [])) (by kernel_rfl) ?_
  intro w hw
  replace ok := okdrew ok hw
  clear hw
  refine k_next (cl1 (cq le_m0 ok [1] rfl) (cq le_m0 ok [1] rfl)) fun hT => kt 0 E rfl hT (y_move rfl) fun a E => kt 1 E rfl hT (y_sslice Tryz.underlying9 e16 rfl ⟨_, rfl⟩ rfl) fun a E => kt 2 E rfl hT (y_fieldAddr fo_36_0 rfl) fun a E => k_all [3] (by kernel_rfl) rfl (one_c ?_)
  ·refine wo rfl <| l_storeB E ok 0 rfl rfl rfl inf_4 rfl rfl ⟨rfl, trivial⟩ rfl rfl fun w ok => wn <| k_next (cl1 (cq le_m0 ok [1] rfl) (cq le_m0 ok [1] rfl)) fun hT => kt 4 E rfl hT (y_assign rfl) fun a E => k_done (by kernel_rfl) ?_
   exact ⟨rfl, ⟨ok, E.keep [0, 2, 4], (Nat.le_trans (slc_len e16) ls_0), (Nat.zero_le _), (Nat.zero_le _)⟩⟩
 clear hJ
 intro e a w hO
 obtain ⟨rfl, ok, E, l20, l21, l22⟩ := hO
 refine t_norm <| sg <| aw E rfl fun a E => wp_seq <| wp_block ?_
 obtain ⟨o24, hL, hF⟩ := bnd hF
 refine c_loop _ (fun (s : Int) a w => Ok u m0 ([(b2, oc 36 [vb o6.2.Neg, vs o6.2.Whole, vs o6.2.Frac])] :: [(b1, oc 36 [vb false, (vs ([])), (vs ([]))])] :: S) w ∧ Env 98 a [(0, vs o6.1), (2, vp b1), (4, vp b2), (5, vi s)] ∧ InR .i64 s) (fun (b : Int) e a w => e = (.exit 0) ∧ Ok u m0 ([(b2, oc 36 [vb o6.2.Neg, vs o6.2.Whole, vs o6.2.Frac])] :: [(b1, oc 36 [vb false, (vs ([])), (vs ([]))])] :: S) w ∧ Env 98 a [(0, vs o6.1), (2, vp b1), (4, vp b2), (5, vi b)] ∧ InR .i64 b) ?_ ?_ N _ a w hL ⟨ok, E.keep [0, 2, 4, 5], (ir 0)⟩
 ·rintro k_26 a w r ⟨ok, E, r27⟩ hF
  replace hF : calqueref07_Split_b1 N o6 k_26 = some r := hF
  unfold calqueref07_Split_b1 at hF
  refine wp_seq <| sg <| mv E rfl fun a E => mv E rfl fun a E => lw E (y_slen Tryz.underlying9 rfl) fun a E => lw E (y_lss rfl rfl) fun a E => mv E rfl fun a E => ?_
  refine bsplit (decide (k_26 < (o6.1.length : Int))) (fun hc28 => ?_) (fun hc28 => ?_)
  rotate_left
  ·replace hF := cond_f hc28 hF
   replace E := E.upd 21 hc28 rfl
   refine ls E fun a E => ls E fun a E => ls E fun a E => ls E fun a E => pf E rfl rfl fun a E => wn <| c_if E rfl (fun h => by cases h) (fun _ => ?_)
   refine wp_exit <| t_exit ?_
   obtain rfl := sj hF
   exact so (⟨rfl, ⟨ok, E.keep [0, 2, 4, 5], r27⟩⟩)
  replace hF := cond_t hc28 hF
  replace E := E.upd 21 hc28 rfl
  refine mv E rfl fun a E => mv E rfl fun a E => ?_
  obtain ⟨c29, e30, hF⟩ := bnd hF
  refine lv E ok (y_index Tryz.underlying9 rfl rfl e30) fun a E => lw E (y_neq rfl rfl) fun a E => pt E rfl rfl fun a E => wn <| cf E rfl hF (fun hc31 hF => ?_) fun hc31 hF => ?_
  rotate_left
  ·refine wp_exit <| t_exit ?_
   obtain rfl := sj hF
   exact so (⟨rfl, ⟨ok, E.keep [0, 2, 4, 5], r27⟩⟩)
  refine wp_skip <| t_norm <| wp_block <| c_region <| mv E rfl fun a E => lw E (y_add rfl rfl (InR.inc r27 (InR.len l20) hc28)) fun a E => av E rfl fun a E => wpList_nil ?_
  refine b_norm ?_
  obtain rfl := sj hF
  exact step_n ⟨ok, E.keep [0, 2, 4, 5], (InR.inc r27 (InR.len l20) hc28)⟩
 intro e a w _ hO
 obtain ⟨rfl, ok, E, r32⟩ := hO
 refine b_hit <| t_norm <| sg <| mv E rfl fun a E => mv E rfl fun a E => ?_
 obtain ⟨s33, e34, hF⟩ := bnd hF
 refine lw E (y_sslice Tryz.underlying9 e34 rfl rfl ⟨_, rfl⟩) fun a E => fv E fo_36_1 rfl fun a E => l_storeB E ok 0 rfl rfl rfl inf_9 rfl rfl ⟨rfl, trivial⟩ rfl rfl fun w ok => wn <| wp_seq <| sg ?_
 refine mv E rfl fun a E => mv E rfl fun a E => lw E (y_slen Tryz.underlying9 rfl) fun a E => lw E (y_lss rfl rfl) fun a E => wn ?_
 obtain ⟨o35, hJ, hF⟩ := bnd hF
 refine c_mono (Q' := fun e a w => (Sum.elim (fun b36 => e = .normal ∧ Ok u m0 ([(b2, oc 36 [vb b36.Neg, vs b36.Whole, vs b36.Frac])] :: [(b1, oc 36 [vb false, (vs ([])), (vs ([]))])] :: S) w ∧ Env 98 a [(2, vp b1), (4, vp b2)] ∧ b36.Whole.length ≤ LIMS ∧ b36.Frac.length ≤ LIMS) (fun b39 => e = .ret ∧ calqueref07_Split_R u m0 S b39 a w)) o35) ?_ ?_
 ·replace hF := hJ
  clear hJ
  refine cf E rfl hF (fun hc40 hF => ?_) fun hc40 hF => ?_
  rotate_left
  ·refine wp_skip ?_
   obtain rfl := sj hF
   exact (sl ⟨rfl, ⟨ok, E.keep [2, 4], (Nat.le_trans (slc_len e34) l20), l22⟩⟩)
  refine sg <| mv E rfl fun a E => mv E rfl fun a E => lw E (y_add rfl rfl (InR.inc r32 (InR.len l20) hc40)) fun a E => ?_
  obtain ⟨s41, e42, hF⟩ := bnd hF
  refine lw E (y_sslice Tryz.underlying9 e42 rfl ⟨_, rfl⟩ rfl) fun a E => fv E fo_36_2 rfl fun a E => l_storeB E ok 0 rfl rfl rfl inf_9 rfl rfl ⟨rfl, trivial⟩ rfl rfl fun w ok => wn <| sg <| fv E fo_36_2 rfl fun a E => ?_
  refine ld E ok one_9 0 rfl rfl rfl fun a E => lw E (y_slen Tryz.underlying9 rfl) fun a E => lw E (y_eql rfl rfl) fun a E => wn <| cf E rfl hF (fun hc43 hF => ?_) fun hc43 hF => ?_
  rotate_left
  ·refine wp_skip ?_
   obtain rfl := sj hF
   exact (sl ⟨rfl, ⟨ok, E.keep [2, 4], (Nat.le_trans (slc_len e34) l20), (Nat.le_trans (slc_len e42) l20)⟩⟩)
  refine sg <| lw E (y_build (ps := []) (qs := []) (cs := [vb false, (vs ([])), (vs ([]))]) zero_36 places_36 rfl trivial rfl) fun a E => l_storeB E ok 1 rfl rfl rfl inf_36 rfl rfl ⟨rfl, rfl, rfl, trivial⟩ rfl rfl fun w ok => aw E rfl fun a E => wp_ret ?_
  have hret : calqueref07_Split_R u m0 S ((Number2.mk false ([]) ([])), false) a w := ⟨m0, [vb false, (vs ([])), (vs ([]))], le_m0, ok.drop.drop, E.d, ⟨rv_c (cs := [vb false, (vs ([])), (vs ([]))]) E ok rfl agg_36 rfl (Holds.own 1 rfl rfl), rv_t E rfl, trivial⟩, ⟨rfl, (Nat.zero_le _), (Nat.zero_le _)⟩⟩
  obtain rfl := sj hF
  exact (sr ⟨rfl, hret⟩)
 clear hJ
 intro e a w hO
 rcases o35 with o35 | o35
 rotate_left
 ·replace hF := elim_r hF
  obtain ⟨rfl, hret⟩ := hO
  refine t_ret ?_
  exact fin hF hret
 replace hF := elim_l hF
 obtain ⟨rfl, ok, E, l44, l45⟩ := hO
 refine t_norm <| wp_seq <| sg <| fv E fo_36_1 rfl fun a E => ld E ok one_9 0 rfl rfl rfl fun a E => fv E fo_36_2 rfl fun a E => ld E ok one_9 0 rfl rfl rfl fun a E => ?_
 obtain ⟨s46, e47, hF⟩ := bnd hF
 refine lw E (y_cat rfl rfl e47) fun a E => ?_
 obtain ⟨r48, e49, hF⟩ := bnd hF
 refine lc E go_45 rfl (calqueref07_digits_w N s46 (cat_len e47) e49 hG ok) fun w ok a E => lw E (y_not rfl) fun a E => mv E rfl fun a E => bsplit (!r48) (fun hc50 => ?_) (fun hc50 => ?_)
 ·replace hF := cond_t hc50 hF
  replace E := E.upd 54 hc50 rfl
  refine ls E fun a E => ls E fun a E => ls E fun a E => ls E fun a E => pt E rfl rfl fun a E => mv E rfl fun a E => ls E fun a E => ls E fun a E => ?_
  refine ls E fun a E => ls E fun a E => pt E rfl rfl fun a E => mv E rfl fun a E => ls E fun a E => ls E fun a E => ls E fun a E => ls E fun a E => ?_
  refine ls E fun a E => ls E fun a E => ls E fun a E => ls E fun a E => ls E fun a E => ls E fun a E => pt E rfl rfl fun a E => mv E rfl fun a E => ?_
  refine ls E fun a E => ls E fun a E => ls E fun a E => ls E fun a E => pt E rfl rfl fun a E => mv E rfl fun a E => ls E fun a E => ls E fun a E => ?_
  refine ls E fun a E => ls E fun a E => ls E fun a E => ls E fun a E => ls E fun a E => ls E fun a E => ls E fun a E => ls E fun a E => ?_
  refine pt E rfl rfl fun a E => wn <| c_if E rfl (fun _ => ?_) (fun h => by cases h)
  refine sg <| lw E (y_build (ps := []) (qs := []) (cs := [vb false, (vs ([])), (vs ([]))]) zero_36 places_36 rfl trivial rfl) fun a E => l_storeB E ok 1 rfl rfl rfl inf_36 rfl rfl ⟨rfl, rfl, rfl, trivial⟩ rfl rfl fun w ok => aw E rfl fun a E => wp_ret ?_
  refine t_ret ?_
  exact fin hF ⟨m0, [vb false, (vs ([])), (vs ([]))], le_m0, ok.drop.drop, E.d, ⟨rv_c (cs := [vb false, (vs ([])), (vs ([]))]) E ok rfl agg_36 rfl (Holds.own 1 rfl rfl), rv_t E rfl, trivial⟩, ⟨rfl, (Nat.zero_le _), (Nat.zero_le _)⟩⟩
 replace hF := cond_f hc50 hF
 replace E := E.upd 54 hc50 rfl
 refine fv E fo_36_1 rfl fun a E => ld E ok one_9 0 rfl rfl rfl fun a E => lw E (y_slen Tryz.underlying9 rfl) fun a E => lw E (y_lss rfl rfl) fun a E => pf E rfl rfl fun a E => mv E rfl fun a E => bsplit (decide ((o35.Whole.length : Int) < 1)) (fun hc51 => ?_) (fun hc51 => ?_)
 ·replace hF := cond_t hc51 hF
  replace E := E.upd 60 hc51 rfl
  refine ls E fun a E => ls E fun a E => ls E fun a E => ls E fun a E => pt E rfl rfl fun a E => mv E rfl fun a E => ls E fun a E => ls E fun a E => ?_
  refine ls E fun a E => ls E fun a E => ls E fun a E => ls E fun a E => ls E fun a E => ls E fun a E => ls E fun a E => ls E fun a E => ?_
  refine pt E rfl rfl fun a E => mv E rfl fun a E => ls E fun a E => ls E fun a E => ls E fun a E => ls E fun a E => pt E rfl rfl fun a E => mv E rfl fun a E => ?_
  refine ls E fun a E => ls E fun a E => ls E fun a E => ls E fun a E => ls E fun a E => ls E fun a E => ls E fun a E => ls E fun a E => ?_
  refine ls E fun a E => ls E fun a E => pt E rfl rfl fun a E => wn <| c_if E rfl (fun _ => ?_) (fun h => by cases h)
  refine sg <| lw E (y_build (ps := []) (qs := []) (cs := [vb false, (vs ([])), (vs ([]))]) zero_36 places_36 rfl trivial rfl) fun a E => l_storeB E ok 1 rfl rfl rfl inf_36 rfl rfl ⟨rfl, rfl, rfl, trivial⟩ rfl rfl fun w ok => aw E rfl fun a E => wp_ret ?_
  refine t_ret ?_
  exact fin hF ⟨m0, [vb false, (vs ([])), (vs ([]))], le_m0, ok.drop.drop, E.d, ⟨rv_c (cs := [vb false, (vs ([])), (vs ([]))]) E ok rfl agg_36 rfl (Holds.own 1 rfl rfl), rv_t E rfl, trivial⟩, ⟨rfl, (Nat.zero_le _), (Nat.zero_le _)⟩⟩
 replace hF := cond_f hc51 hF
 replace E := E.upd 60 hc51 rfl
 refine fv E fo_36_1 rfl fun a E => ld E ok one_9 0 rfl rfl rfl fun a E => lw E (y_slen Tryz.underlying9 rfl) fun a E => lw E (y_gtr rfl rfl) fun a E => pf E rfl rfl fun a E => mv E rfl fun a E => bsplit (decide ((o35.Whole.length : Int) > 15)) (fun hc52 => ?_) (fun hc52 => ?_)
 ·replace hF := cond_t hc52 hF
  replace E := E.upd 66 hc52 rfl
  refine ls E fun a E => ls E fun a E => ls E fun a E => ls E fun a E => ls E fun a E => ls E fun a E => ls E fun a E => ls E fun a E => ?_
  refine ls E fun a E => ls E fun a E => pt E rfl rfl fun a E => mv E rfl fun a E => ls E fun a E => ls E fun a E => ls E fun a E => ls E fun a E => ?_
  refine pt E rfl rfl fun a E => mv E rfl fun a E => ls E fun a E => ls E fun a E => ls E fun a E => ls E fun a E => ls E fun a E => ls E fun a E => ?_
  refine ls E fun a E => ls E fun a E => ls E fun a E => ls E fun a E => pt E rfl rfl fun a E => wn <| c_if E rfl (fun _ => ?_) (fun h => by cases h)
  refine sg <| lw E (y_build (ps := []) (qs := []) (cs := [vb false, (vs ([])), (vs ([]))]) zero_36 places_36 rfl trivial rfl) fun a E => l_storeB E ok 1 rfl rfl rfl inf_36 rfl rfl ⟨rfl, rfl, rfl, trivial⟩ rfl rfl fun w ok => aw E rfl fun a E => wp_ret ?_
  refine t_ret ?_
  exact fin hF ⟨m0, [vb false, (vs ([])), (vs ([]))], le_m0, ok.drop.drop, E.d, ⟨rv_c (cs := [vb false, (vs ([])), (vs ([]))]) E ok rfl agg_36 rfl (Holds.own 1 rfl rfl), rv_t E rfl, trivial⟩, ⟨rfl, (Nat.zero_le _), (Nat.zero_le _)⟩⟩
 replace hF := cond_f hc52 hF
 replace E := E.upd 66 hc52 rfl
 refine fv E fo_36_1 rfl fun a E => ld E ok one_9 0 rfl rfl rfl fun a E => lw E (y_slen Tryz.underlying9 rfl) fun a E => lw E (y_gtr rfl rfl) fun a E => mv E rfl fun a E => bsplit (decide ((o35.Whole.length : Int) > 1)) (fun hc53 => ?_) (fun hc53 => ?_)
 rotate_left
 ·as_aux_lemma =>
   replace hF := cond_f hc53 hF
   replace E := E.upd 71 hc53 rfl
   refine ls E fun a E => ls E fun a E => ls E fun a E => ls E fun a E => pf E rfl rfl fun a E => pf E rfl rfl fun a E => mv E rfl fun a E => fv E fo_36_2 rfl fun a E => ?_
   refine ld E ok one_9 0 rfl rfl rfl fun a E => lw E (y_slen Tryz.underlying9 rfl) fun a E => lw E (y_gtr rfl rfl) fun a E => pf E rfl rfl fun a E => mv E rfl fun a E => bsplit (decide ((o35.Frac.length : Int) > 6)) (fun hc64 => ?_) (fun hc64 => ?_)
   ·replace hF := cond_t hc64 hF
    replace E := E.upd 84 hc64 rfl
    refine ls E fun a E => ls E fun a E => ls E fun a E => ls E fun a E => ls E fun a E => ls E fun a E => ls E fun a E => ls E fun a E => ?_
    refine ls E fun a E => ls E fun a E => pt E rfl rfl fun a E => wn <| c_if E rfl (fun _ => ?_) (fun h => by cases h)
    refine sg <| lw E (y_build (ps := []) (qs := []) (cs := [vb false, (vs ([])), (vs ([]))]) zero_36 places_36 rfl trivial rfl) fun a E => l_storeB E ok 1 rfl rfl rfl inf_36 rfl rfl ⟨rfl, rfl, rfl, trivial⟩ rfl rfl fun w ok => aw E rfl fun a E => wp_ret ?_
    refine t_ret ?_
    exact fin hF ⟨m0, [vb false, (vs ([])), (vs ([]))], le_m0, ok.drop.drop, E.d, ⟨rv_c (cs := [vb false, (vs ([])), (vs ([]))]) E ok rfl agg_36 rfl (Holds.own 1 rfl rfl), rv_t E rfl, trivial⟩, ⟨rfl, (Nat.zero_le _), (Nat.zero_le _)⟩⟩
   replace hF := cond_f hc64 hF
   replace E := E.upd 84 hc64 rfl
   refine fv E fo_36_0 rfl fun a E => ld E ok one_4 0 rfl rfl rfl fun a E => mv E rfl fun a E => bsplit o35.Neg (fun hc65 => ?_) (fun hc65 => ?_)
   rotate_left
   ·replace hF := cond_f hc65 hF
    replace E := E.upd 87 hc65 rfl
    refine ls E fun a E => ls E fun a E => ls E fun a E => ls E fun a E => ls E fun a E => ls E fun a E => pf E rfl rfl fun a E => pf E rfl rfl fun a E => ?_
    refine wn <| c_if E rfl (fun h => by cases h) (fun _ => ?_)
    refine wp_skip <| t_norm <| sg <| lv E ok (y_loadAgg (cs := [vb o35.Neg, vs o35.Whole, vs o35.Frac]) agg_36 rfl rfl (Holds.own 0 rfl rfl)) fun a E => l_storeB E ok 1 rfl rfl rfl inf_36 rfl rfl ⟨rfl, rfl, rfl, trivial⟩ rfl rfl fun w ok => av E rfl fun a E => wpList_nil ?_
    refine t_norm <| wp_ret ?_
    exact fin hF ⟨m0, [vb o35.Neg, vs o35.Whole, vs o35.Frac], le_m0, ok.drop.drop, E.d, ⟨rv_c (cs := [vb o35.Neg, vs o35.Whole, vs o35.Frac]) E ok rfl agg_36 rfl (Holds.own 1 rfl rfl), rv_t E rfl, trivial⟩, ⟨rfl, l44, l45⟩⟩
   replace hF := cond_t hc65 hF
   replace E := E.upd 87 hc65 rfl
   refine fv E fo_36_1 rfl fun a E => ld E ok one_9 0 rfl rfl rfl fun a E => fv E fo_36_2 rfl fun a E => ld E ok one_9 0 rfl rfl rfl fun a E => ?_
   obtain ⟨s66, e67, hF⟩ := bnd hF
   refine lw E (y_cat rfl rfl e67) fun a E => ?_
   obtain ⟨r68, e69, hF⟩ := bnd hF
   refine lc E go_46 rfl (calqueref07_Zero_w N s66 (cat_len e67) e69 hG ok) fun w ok a E => pt E rfl rfl fun a E => pf E rfl rfl fun a E => wn <| cf E rfl hF (fun hc70 hF => ?_) fun hc70 hF => ?_
   ·refine sg <| lw E (y_build (ps := []) (qs := []) (cs := [vb false, (vs ([])), (vs ([]))]) zero_36 places_36 rfl trivial rfl) fun a E => l_storeB E ok 1 rfl rfl rfl inf_36 rfl rfl ⟨rfl, rfl, rfl, trivial⟩ rfl rfl fun w ok => aw E rfl fun a E => wp_ret ?_
    refine t_ret ?_
    exact fin hF ⟨m0, [vb false, (vs ([])), (vs ([]))], le_m0, ok.drop.drop, E.d, ⟨rv_c (cs := [vb false, (vs ([])), (vs ([]))]) E ok rfl agg_36 rfl (Holds.own 1 rfl rfl), rv_t E rfl, trivial⟩, ⟨rfl, (Nat.zero_le _), (Nat.zero_le _)⟩⟩
   refine wp_skip <| t_norm <| sg <| lv E ok (y_loadAgg (cs := [vb o35.Neg, vs o35.Whole, vs o35.Frac]) agg_36 rfl rfl (Holds.own 0 rfl rfl)) fun a E => l_storeB E ok 1 rfl rfl rfl inf_36 rfl rfl ⟨rfl, rfl, rfl, trivial⟩ rfl rfl fun w ok => av E rfl fun a E => wpList_nil ?_
   refine t_norm <| wp_ret ?_
   exact fin hF ⟨m0, [vb o35.Neg, vs o35.Whole, vs o35.Frac], le_m0, ok.drop.drop, E.d, ⟨rv_c (cs := [vb o35.Neg, vs o35.Whole, vs o35.Frac]) E ok rfl agg_36 rfl (Holds.own 1 rfl rfl), rv_t E rfl, trivial⟩, ⟨rfl, l44, l45⟩⟩
 replace hF := cond_t hc53 hF
 replace E := E.upd 71 hc53 rfl
 refine fv E fo_36_1 rfl fun a E => ld E ok one_9 0 rfl rfl rfl fun a E => ?_
 obtain ⟨c54, e55, hF⟩ := bnd hF
 refine lv E ok (y_index Tryz.underlying9 rfl rfl e55) fun a E => lw E (y_eql rfl rfl) fun a E => pt E rfl rfl fun a E => pf E rfl rfl fun a E => mv E rfl fun a E => bsplit ((c54.toNat : Int) == 48) (fun hc56 => ?_) (fun hc56 => ?_)
 ·replace hF := cond_t hc56 hF
  replace E := E.upd 78 hc56 rfl
  refine ls E fun a E => ls E fun a E => ls E fun a E => ls E fun a E => pt E rfl rfl fun a E => mv E rfl fun a E => ls E fun a E => ls E fun a E => ?_
  refine ls E fun a E => ls E fun a E => ls E fun a E => ls E fun a E => ls E fun a E => ls E fun a E => ls E fun a E => ls E fun a E => ?_
  refine pt E rfl rfl fun a E => wn <| c_if E rfl (fun _ => ?_) (fun h => by cases h)
  refine sg <| lw E (y_build (ps := []) (qs := []) (cs := [vb false, (vs ([])), (vs ([]))]) zero_36 places_36 rfl trivial rfl) fun a E => l_storeB E ok 1 rfl rfl rfl inf_36 rfl rfl ⟨rfl, rfl, rfl, trivial⟩ rfl rfl fun w ok => aw E rfl fun a E => wp_ret ?_
  refine t_ret ?_
  exact fin hF ⟨m0, [vb false, (vs ([])), (vs ([]))], le_m0, ok.drop.drop, E.d, ⟨rv_c (cs := [vb false, (vs ([])), (vs ([]))]) E ok rfl agg_36 rfl (Holds.own 1 rfl rfl), rv_t E rfl, trivial⟩, ⟨rfl, (Nat.zero_le _), (Nat.zero_le _)⟩⟩
 replace hF := cond_f hc56 hF
 replace E := E.upd 78 hc56 rfl
 refine fv E fo_36_2 rfl fun a E => ld E ok one_9 0 rfl rfl rfl fun a E => lw E (y_slen Tryz.underlying9 rfl) fun a E => lw E (y_gtr rfl rfl) fun a E => pf E rfl rfl fun a E => mv E rfl fun a E => bsplit (decide ((o35.Frac.length : Int) > 6)) (fun hc57 => ?_) (fun hc57 => ?_)
 ·replace hF := cond_t hc57 hF
  replace E := E.upd 84 hc57 rfl
  refine ls E fun a E => ls E fun a E => ls E fun a E => ls E fun a E => ls E fun a E => ls E fun a E => ls E fun a E => ls E fun a E => ?_
  refine ls E fun a E => ls E fun a E => pt E rfl rfl fun a E => wn <| c_if E rfl (fun _ => ?_) (fun h => by cases h)
  refine sg <| lw E (y_build (ps := []) (qs := []) (cs := [vb false, (vs ([])), (vs ([]))]) zero_36 places_36 rfl trivial rfl) fun a E => l_storeB E ok 1 rfl rfl rfl inf_36 rfl rfl ⟨rfl, rfl, rfl, trivial⟩ rfl rfl fun w ok => aw E rfl fun a E => wp_ret ?_
  refine t_ret ?_
  exact fin hF ⟨m0, [vb false, (vs ([])), (vs ([]))], le_m0, ok.drop.drop, E.d, ⟨rv_c (cs := [vb false, (vs ([])), (vs ([]))]) E ok rfl agg_36 rfl (Holds.own 1 rfl rfl), rv_t E rfl, trivial⟩, ⟨rfl, (Nat.zero_le _), (Nat.zero_le _)⟩⟩
 replace hF := cond_f hc57 hF
 replace E := E.upd 84 hc57 rfl
 refine fv E fo_36_0 rfl fun a E => ld E ok one_4 0 rfl rfl rfl fun a E => mv E rfl fun a E => bsplit o35.Neg (fun hc58 => ?_) (fun hc58 => ?_)
 rotate_left
 ·replace hF := cond_f hc58 hF
  replace E := E.upd 87 hc58 rfl
  refine ls E fun a E => ls E fun a E => ls E fun a E => ls E fun a E => ls E fun a E => ls E fun a E => pf E rfl rfl fun a E => pf E rfl rfl fun a E => ?_
  refine wn <| c_if E rfl (fun h => by cases h) (fun _ => ?_)
  refine wp_skip <| t_norm <| sg <| lv E ok (y_loadAgg (cs := [vb o35.Neg, vs o35.Whole, vs o35.Frac]) agg_36 rfl rfl (Holds.own 0 rfl rfl)) fun a E => l_storeB E ok 1 rfl rfl rfl inf_36 rfl rfl ⟨rfl, rfl, rfl, trivial⟩ rfl rfl fun w ok => av E rfl fun a E => wpList_nil ?_
  refine t_norm <| wp_ret ?_
  exact fin hF ⟨m0, [vb o35.Neg, vs o35.Whole, vs o35.Frac], le_m0, ok.drop.drop, E.d, ⟨rv_c (cs := [vb o35.Neg, vs o35.Whole, vs o35.Frac]) E ok rfl agg_36 rfl (Holds.own 1 rfl rfl), rv_t E rfl, trivial⟩, ⟨rfl, l44, l45⟩⟩
 replace hF := cond_t hc58 hF
 replace E := E.upd 87 hc58 rfl
 refine fv E fo_36_1 rfl fun a E => ld E ok one_9 0 rfl rfl rfl fun a E => fv E fo_36_2 rfl fun a E => ld E ok one_9 0 rfl rfl rfl fun a E => ?_
 obtain ⟨s59, e60, hF⟩ := bnd hF
 refine lw E (y_cat rfl rfl e60) fun a E => ?_
 obtain ⟨r61, e62, hF⟩ := bnd hF
 refine lc E go_46 rfl (calqueref07_Zero_w N s59 (cat_len e60) e62 hG ok) fun w ok a E => pt E rfl rfl fun a E => pf E rfl rfl fun a E => wn <| cf E rfl hF (fun hc63 hF => ?_) fun hc63 hF => ?_
 ·refine sg <| lw E (y_build (ps := []) (qs := []) (cs := [vb false, (vs ([])), (vs ([]))]) zero_36 places_36 rfl trivial rfl) fun a E => l_storeB E ok 1 rfl rfl rfl inf_36 rfl rfl ⟨rfl, rfl, rfl, trivial⟩ rfl rfl fun w ok => aw E rfl fun a E => wp_ret ?_
  refine t_ret ?_
  exact fin hF ⟨m0, [vb false, (vs ([])), (vs ([]))], le_m0, ok.drop.drop, E.d, ⟨rv_c (cs := [vb false, (vs ([])), (vs ([]))]) E ok rfl agg_36 rfl (Holds.own 1 rfl rfl), rv_t E rfl, trivial⟩, ⟨rfl, (Nat.zero_le _), (Nat.zero_le _)⟩⟩
 refine wp_skip <| t_norm <| sg <| lv E ok (y_loadAgg (cs := [vb o35.Neg, vs o35.Whole, vs o35.Frac]) agg_36 rfl rfl (Holds.own 0 rfl rfl)) fun a E => l_storeB E ok 1 rfl rfl rfl inf_36 rfl rfl ⟨rfl, rfl, rfl, trivial⟩ rfl rfl fun w ok => av E rfl fun a E => wpList_nil ?_
 refine t_norm <| wp_ret ?_
 exact fin hF ⟨m0, [vb o35.Neg, vs o35.Whole, vs o35.Frac], le_m0, ok.drop.drop, E.d, ⟨rv_c (cs := [vb o35.Neg, vs o35.Whole, vs o35.Frac]) E ok rfl agg_36 rfl (Holds.own 1 rfl rfl), rv_t E rfl, trivial⟩, ⟨rfl, l44, l45⟩⟩
end Go.Proofs.YtboacfcnmhnbdaaGreatDoor
namespace Go.Proofs.YtboacfcnmhnbdaaGreatDoor
open Go.X
def calqueref08_Inside_b1 (_N : Nat) (l_0 : List (Span)) (n_1 : Int) (i_4 : Int) : Option (Int ⊕ ((Unit ⊕ Bool))) :=
 bif (decide (i_4 < (l_0.length : Int))) then
  (idx l_0 i_4).bind fun x7 =>
  bif (decide (n_1 ≥ x7.From)) then
   (idx l_0 i_4).bind fun x19 =>
   bif (decide (n_1 ≤ x19.To)) then
    some (.inr (.inr true))
   else
    some (.inl (i_4 + 1))
  else
   some (.inl (i_4 + 1))
 else
  some (.inr (.inl ()))
def calqueref08_Inside (N : Nat) (l_0 : List (Span)) (n_1 : Int) : Option Bool :=
 (iter (fun s => calqueref08_Inside_b1 N l_0 n_1 s) N 0).bind fun o2 =>
 Sum.elim (fun _o2 =>
  some false)
 (fun o2 =>
  some o2) o2
def calqueref08_Relation (N : Nat) (r_0 : Relation) (number_1 : List UInt8) : Option Bool :=
 (calqueref07_Operand N number_1 r_0.Operand).bind fun r6 =>
 bif (r6.2 != 0) then
  some r_0.Not
 else
  (show Option Int from
   bif (r_0.Mod != 0) then
    (rm r6.1 r_0.Mod).bind fun q14 =>
    some q14
   else
    some r6.1).bind fun o11 =>
  (calqueref08_Inside N r_0.Spans o11).bind fun r17 =>
  some (r17 != r_0.Not)
def calqueref10_whole (_N : Nat) (r_0 : Relation) : Option Bool :=
 bif (r_0.Operand == 1) then
  some true
 else
  some (r_0.Operand == 2)
def calqueref10_vector_b1 (N : Nat) (l_0 : List (Relation)) (number_1 : List UInt8) (first_2 : Bool) (s_6 : List UInt8) (i_7 : Int) : Option (((List UInt8) × Int) ⊕ (((List UInt8)))) :=
 bif (decide (i_7 < (l_0.length : Int))) then
  (idx l_0 i_7).bind fun x11 =>
  (calqueref10_whole N x11).bind fun r24 =>
  bif (r24 != first_2) then
   some (.inl (s_6, (i_7 + 1)))
  else
   (idx l_0 i_7).bind fun x27 =>
   (calqueref08_Relation N x27 number_1).bind fun r40 =>
   bif r40 then
    (cat s_6 ([49])).bind fun s43 =>
    some (.inl (s43, (i_7 + 1)))
   else
    (cat s_6 ([48])).bind fun s45 =>
    some (.inl (s45, (i_7 + 1)))
 else
  some (.inr s_6)
def calqueref10_vector (N : Nat) (l_0 : List (Relation)) (number_1 : List UInt8) (first_2 : Bool) : Option (List UInt8) :=
 (iter (fun s => calqueref10_vector_b1 N l_0 number_1 first_2 s.1 s.2) N ([], 0)).bind fun o3 =>
 some o3
def calqueref10_decimal (N : Nat) (n_0 : Int) : Option (List UInt8) :=
 match N with
 | 0 => none
 | N + 1 =>
  bif (decide (n_0 ≥ 10)) then
   (calqueref10_decimal N (IntKind.wrap .i64 (n_0.tdiv 10))).bind fun r2 =>
   (rm n_0 10).bind fun q5 =>
   (calqueref10_decimal N q5).bind fun r7 =>
   (cat r2 r7).bind fun s10 =>
   some s10
  else
   some (bytesOf ([(IntKind.wrap .u8 (IntKind.wrap .i64 ((48 : Int) + n_0)))] : List (Int)))
def calqueref10_place_b1 (_N : Nat) (l_0 : List (List UInt8)) (s_1 : List UInt8) (i_4 : Int) : Option (Int ⊕ ((Unit ⊕ Int))) :=
 bif (decide (i_4 < (l_0.length : Int))) then
  (idx l_0 i_4).bind fun x7 =>
  bif (x7 == s_1) then
   some (.inr (.inr i_4))
  else
   some (.inl (i_4 + 1))
 else
  some (.inr (.inl ()))
def calqueref10_place (N : Nat) (l_0 : List (List UInt8)) (s_1 : List UInt8) : Option Int :=
 (iter (fun s => calqueref10_place_b1 N l_0 s_1 s) N 0).bind fun o2 =>
 Sum.elim (fun _o2 =>
  some (-1))
 (fun o2 =>
  some o2) o2
def calqueref10_wholes_b1 (N : Nat) (l_0 : List (Relation)) (seen_21 : List (List UInt8)) (out_22 : List (List UInt8)) (n_23 : Int) : Option (((List (List UInt8)) × (List (List UInt8)) × Int) ⊕ (((List (List UInt8))))) :=
 bif (decide (n_23 ≤ 400)) then
  (calqueref10_decimal N n_23).bind fun r32 =>
  (calqueref10_vector N l_0 r32 true).bind fun r35 =>
  (calqueref10_place N seen_21 r35).bind fun r43 =>
  bif (decide (r43 < 0)) then
   (app seen_21 ([r35] : List (List UInt8))).bind fun l50 =>
   (calqueref10_decimal N n_23).bind fun r55 =>
   (app out_22 ([r55] : List (List UInt8))).bind fun l61 =>
   some (.inl (l50, l61, (IntKind.wrap .i64 (n_23 + 1))))
  else
   some (.inl (seen_21, out_22, (IntKind.wrap .i64 (n_23 + 1))))
 else
  some (.inr out_22)
def calqueref10_wholes (N : Nat) (l_0 : List (Relation)) : Option (List (List UInt8)) :=
 (iter (fun s => calqueref10_wholes_b1 N l_0 s.1 s.2.1 s.2.2) N ([], [], 0)).bind fun o13 =>
 some o13
def calqueref10_padded_b1 (_N : Nat) (width_1 : Int) (s_7 : List UInt8) : Option (((List UInt8)) ⊕ (((List UInt8)))) :=
 bif (decide ((s_7.length : Int) < width_1)) then
  (cat ([48]) s_7).bind fun s10 =>
  some (.inl s10)
 else
  some (.inr s_7)
def calqueref10_padded_b2 (_N : Nat) (zeros_2 : Int) (s_18 : List UInt8) (i_19 : Int) : Option (((List UInt8) × Int) ⊕ (((List UInt8)))) :=
 bif (decide (i_19 < zeros_2)) then
  (cat s_18 ([48])).bind fun s23 =>
  some (.inl (s23, (i_19 + 1)))
 else
  some (.inr s_18)
def calqueref10_padded (N : Nat) (n_0 : Int) (width_1 : Int) (zeros_2 : Int) : Option (List UInt8) :=
 (calqueref10_decimal N n_0).bind fun r1 =>
 (iter (fun s => calqueref10_padded_b1 N width_1 s) N r1).bind fun o5 =>
 (iter (fun s => calqueref10_padded_b2 N zeros_2 s.1 s.2) N (o5, 0)).bind fun o15 =>
 some o15
def calqueref10_fractions_b3 (N : Nat) (l_0 : List (Relation)) (seen_21 : List (List UInt8)) (n_23 : Int) (w_49 : Int) (seen_73 : List (List UInt8)) (out_74 : List (List UInt8)) (t_75 : Int) : Option (((List (List UInt8)) × (List (List UInt8)) × Int) ⊕ (((List (List UInt8)) × (List (List UInt8))))) :=
 bif (decide (t_75 < 300)) then
  (rm t_75 10).bind fun q84 =>
  bif ((q84 == 0) != (w_49 == 0)) then
   some (.inl (seen_73, out_74, (t_75 + 1)))
  else
   bif (w_49 == 0) then
    bif (decide (t_75 > 0)) then
     some (.inl (seen_73, out_74, (t_75 + 1)))
    else
     (calqueref10_decimal N t_75).bind fun r89 =>
     bif (decide ((r89.length : Int) > (max w_49 1))) then
      some (.inl (seen_73, out_74, (t_75 + 1)))
     else
      (show Option ((List UInt8)) from
       bif (decide (n_23 > 0)) then
        (calqueref10_padded N t_75 w_49 (IntKind.wrap .i64 (n_23 - w_49))).bind fun r96 =>
        some r96
       else
        some ([])).bind fun o93 =>
      (show Option ((List UInt8)) from
       bif (w_49 == 0) then
        (calqueref10_padded N 0 n_23 0).bind fun r103 =>
        (slc r103 0 n_23).bind fun s106 =>
        some s106
       else
        some o93).bind fun o100 =>
      (show Option ((List UInt8)) from
       bif (decide (n_23 > 0)) then
        (cat ([48, 46]) o100).bind fun s112 =>
        some s112
       else
        some ([48])).bind fun o109 =>
      (calqueref10_vector N l_0 o109 false).bind fun r115 =>
      (show Option ((List UInt8)) from
       bif (w_49 == 0) then
        (cat r115 ([48])).bind fun s121 =>
        some s121
       else
        some r115).bind fun o118 =>
      (calqueref10_place N seen_73 o118).bind fun r129 =>
      bif (decide (r129 < 0)) then
       (app seen_73 ([o118] : List (List UInt8))).bind fun l136 =>
       (app out_74 ([o100] : List (List UInt8))).bind fun l144 =>
       some (.inl (l136, l144, (t_75 + 1)))
      else
       bif (decide (r129 ≥ (seen_21.length : Int))) then
        (idx out_74 r129).bind fun x150 =>
        bif (sless o100 x150) then
         (idx out_74 r129).bind fun _x162 =>
         (setI out_74 r129 o100).bind fun l168 =>
         some (.inl (seen_73, l168, (t_75 + 1)))
        else
         some (.inl (seen_73, out_74, (t_75 + 1)))
       else
        some (.inl (seen_73, out_74, (t_75 + 1)))
   else
    (calqueref10_decimal N t_75).bind fun r172 =>
    bif (decide ((r172.length : Int) > (max w_49 1))) then
     some (.inl (seen_73, out_74, (t_75 + 1)))
    else
     (show Option ((List UInt8)) from
      bif (decide (n_23 > 0)) then
       (calqueref10_padded N t_75 w_49 (IntKind.wrap .i64 (n_23 - w_49))).bind fun r179 =>
       some r179
      else
       some ([])).bind fun o176 =>
     (show Option ((List UInt8)) from
      bif (w_49 == 0) then
       (calqueref10_padded N 0 n_23 0).bind fun r186 =>
       (slc r186 0 n_23).bind fun s189 =>
       some s189
      else
       some o176).bind fun o183 =>
     (show Option ((List UInt8)) from
      bif (decide (n_23 > 0)) then
       (cat ([48, 46]) o183).bind fun s195 =>
       some s195
      else
       some ([48])).bind fun o192 =>
     (calqueref10_vector N l_0 o192 false).bind fun r198 =>
     (show Option ((List UInt8)) from
      bif (w_49 == 0) then
       (cat r198 ([48])).bind fun s204 =>
       some s204
      else
       some r198).bind fun o201 =>
     (calqueref10_place N seen_73 o201).bind fun r212 =>
     bif (decide (r212 < 0)) then
      (app seen_73 ([o201] : List (List UInt8))).bind fun l219 =>
      (app out_74 ([o183] : List (List UInt8))).bind fun l227 =>
      some (.inl (l219, l227, (t_75 + 1)))
     else
      bif (decide (r212 ≥ (seen_21.length : Int))) then
       (idx out_74 r212).bind fun x233 =>
       bif (sless o183 x233) then
        (idx out_74 r212).bind fun _x245 =>
        (setI out_74 r212 o183).bind fun l251 =>
        some (.inl (seen_73, l251, (t_75 + 1)))
       else
        some (.inl (seen_73, out_74, (t_75 + 1)))
      else
       some (.inl (seen_73, out_74, (t_75 + 1)))
 else
  some (.inr (seen_73, out_74))
def calqueref10_fractions_b2 (N : Nat) (l_0 : List (Relation)) (seen_21 : List (List UInt8)) (n_23 : Int) (seen_47 : List (List UInt8)) (out_48 : List (List UInt8)) (w_49 : Int) : Option (((List (List UInt8)) × (List (List UInt8)) × Int) ⊕ (((List (List UInt8)) × (List (List UInt8))))) :=
 bif (decide (w_49 ≤ n_23)) then
  (iter (fun s => calqueref10_fractions_b3 N l_0 seen_21 n_23 w_49 s.1 s.2.1 s.2.2) N (seen_47, out_48, 0)).bind fun o65 =>
  some (.inl (o65.1, o65.2, (IntKind.wrap .i64 (w_49 + 1))))
 else
  some (.inr (seen_47, out_48))
def calqueref10_fractions_b1 (N : Nat) (l_0 : List (Relation)) (seen_21 : List (List UInt8)) (out_22 : List (List UInt8)) (n_23 : Int) : Option (((List (List UInt8)) × (List (List UInt8)) × Int) ⊕ (((List (List UInt8))))) :=
 bif (decide (n_23 ≤ 6)) then
  (iter (fun s => calqueref10_fractions_b2 N l_0 seen_21 n_23 s.1 s.2.1 s.2.2) N (seen_21, out_22, 0)).bind fun o39 =>
  some (.inl (o39.1, o39.2, (IntKind.wrap .i64 (n_23 + 1))))
 else
  some (.inr out_22)
def calqueref10_fractions (N : Nat) (l_0 : List (Relation)) : Option (List (List UInt8)) :=
 (iter (fun s => calqueref10_fractions_b1 N l_0 s.1 s.2.1 s.2.2) N ([], [], 0)).bind fun o13 =>
 some o13
def calqueref07_Valid (N : Nat) (s_0 : List UInt8) : Option Bool :=
 (calqueref07_Split N s_0).bind fun r1 =>
 some r1.2
def calqueref08_Holds_b2 (N : Nat) (c_0 : List (List (Relation))) (number_1 : List UInt8) (i_10 : Int) (all_16 : Bool) (k_17 : Int) : Option ((Bool × Int) ⊕ Bool) :=
 (idx c_0 i_10).bind fun x19 =>
 bif (decide (k_17 < (x19.length : Int))) then
  bif all_16 then
   (idx c_0 i_10).bind fun x32 =>
   (idx x32 k_17).bind fun x43 =>
   (calqueref08_Relation N x43 number_1).bind fun r56 =>
   some (.inl (r56, (k_17 + 1)))
  else
   some (.inl (false, (k_17 + 1)))
 else
  some (.inr all_16)
def calqueref08_Holds_b1 (N : Nat) (c_0 : List (List (Relation))) (number_1 : List UInt8) (i_10 : Int) : Option (Int ⊕ ((Unit ⊕ (Bool × Int)))) :=
 bif (decide (i_10 < (c_0.length : Int))) then
  (iter (fun s => calqueref08_Holds_b2 N c_0 number_1 i_10 s.1 s.2) N (true, 0)).bind fun o14 =>
  bif o14 then
   some (.inr (.inr (true, 0)))
  else
   some (.inl (i_10 + 1))
 else
  some (.inr (.inl ()))
def calqueref08_Holds (N : Nat) (c_0 : List (List (Relation))) (number_1 : List UInt8) : Option (Bool × Int) :=
 (calqueref08_Valid N c_0).bind fun r1 =>
 bif (!r1) then
  some (false, 1)
 else
  (calqueref07_Valid N number_1).bind fun r4 =>
  bif (!r4) then
   some (false, 1)
  else
   (iter (fun s => calqueref08_Holds_b1 N c_0 number_1 s) N 0).bind fun o8 =>
   Sum.elim (fun _o8 =>
    some (false, 0))
   (fun o8 =>
    some o8) o8
def calqueref10_shows_b1 (N : Nat) (l_0 : List (List (List (Relation)))) (number_1 : List UInt8) (n_6 : Int) (i_7 : Int) : Option ((Int × Int) ⊕ Int) :=
 bif (decide (i_7 < (l_0.length : Int))) then
  (idx l_0 i_7).bind fun x11 =>
  (calqueref08_Holds N x11 number_1).bind fun r22 =>
  bif r22.1 then
   some (.inl ((IntKind.wrap .i64 (n_6 + 1)), (i_7 + 1)))
  else
   some (.inl (n_6, (i_7 + 1)))
 else
  some (.inr n_6)
def calqueref10_shows (N : Nat) (l_0 : List (List (List (Relation)))) (number_1 : List UInt8) (property_2 : Int) : Option Bool :=
 (iter (fun s => calqueref10_shows_b1 N l_0 number_1 s.1 s.2) N (0, 0)).bind fun o3 =>
 bif (property_2 == 0) then
  some (decide (o3 > 0))
 else
  bif (property_2 == 1) then
   some (o3 == 0)
  else
   bif (property_2 == 2) then
    some (o3 == 2)
   else
    some (o3 == 1)
def calqueref10_first_b1 (N : Nat) (l_0 : List (List (List (Relation)))) (relations_14 : List (Relation)) (i_15 : Int) : Option (((List (Relation)) × Int) ⊕ (((List (Relation))))) :=
 bif (decide (i_15 < (l_0.length : Int))) then
  (idx l_0 i_15).bind fun x22 =>
  (calqueref10_all N x22).bind fun r33 =>
  (app relations_14 r33).bind fun l38 =>
  some (.inl (l38, (i_15 + 1)))
 else
  some (.inr relations_14)
def calqueref10_first_b3 (N : Nat) (l_0 : List (List (List (Relation)))) (property_1 : Int) (r49 : (List (List UInt8))) (r54 : (List (List UInt8))) (i_66 : Int) (best_75 : List UInt8) (ok_76 : Bool) (k_77 : Int) : Option (((List UInt8) × Bool × Int) ⊕ (((List UInt8) × Bool))) :=
 bif (decide (k_77 < (r54.length : Int))) then
  (idx r49 i_66).bind fun x81 =>
  (idx r54 k_77).bind fun x91 =>
  (show Option ((List UInt8)) from
   bif (x91 != ([])) then
    (idx r54 k_77).bind fun x104 =>
    (cat ([46]) x104).bind fun s114 =>
    (cat x81 s114).bind fun s116 =>
    some s116
   else
    some x81).bind fun o101 =>
  (calqueref10_shows N l_0 o101 property_1).bind fun r119 =>
  bif r119 then
   bif (!ok_76) then
    some (.inl (o101, true, (k_77 + 1)))
   else
    (calqueref10_Before N o101 best_75).bind fun r123 =>
    bif r123 then
     some (.inl (o101, true, (k_77 + 1)))
    else
     some (.inl (best_75, ok_76, (k_77 + 1)))
  else
   some (.inl (best_75, ok_76, (k_77 + 1)))
 else
  some (.inr (best_75, ok_76))
def calqueref10_first_b2 (N : Nat) (l_0 : List (List (List (Relation)))) (property_1 : Int) (r49 : (List (List UInt8))) (r54 : (List (List UInt8))) (best_64 : List UInt8) (ok_65 : Bool) (i_66 : Int) : Option (((List UInt8) × Bool × Int) ⊕ (((List UInt8) × Bool))) :=
 bif (decide (i_66 < (r49.length : Int))) then
  (iter (fun s => calqueref10_first_b3 N l_0 property_1 r49 r54 i_66 s.1 s.2.1 s.2.2) N (best_64, ok_65, 0)).bind fun o72 =>
  some (.inl (o72.1, o72.2, (i_66 + 1)))
 else
  some (.inr (best_64, ok_65))
def calqueref10_first (N : Nat) (l_0 : List (List (List (Relation)))) (property_1 : Int) : Option ((List UInt8) × Bool) :=
 (iter (fun s => calqueref10_first_b1 N l_0 s.1 s.2) N ([], 0)).bind fun o8 =>
 (calqueref10_wholes N o8).bind fun r49 =>
 (calqueref10_fractions N o8).bind fun r54 =>
 (iter (fun s => calqueref10_first_b2 N l_0 property_1 r49 r54 s.1 s.2.1 s.2.2) N ([], false, 0)).bind fun o61 =>
 some (o61.1, o61.2)
def calqueref10_Disjoint_b1 (_N : Nat) (l_0 : List (Rule)) (conds_13 : List (List (List (Relation)))) (i_14 : Int) : Option (((List (List (List (Relation)))) × Int) ⊕ (((List (List (List (Relation))))))) :=
 bif (decide (i_14 < (l_0.length : Int))) then
  (idx l_0 i_14).bind fun x20 =>
  (app conds_13 ([x20.Cond] : List (List (List (Relation))))).bind fun l35 =>
  some (.inl (l35, (i_14 + 1)))
 else
  some (.inr conds_13)
def calqueref10_Disjoint_b3 (N : Nat) (o8 : ((List (List (List (Relation)))))) (i_54 : Int) (k_60 : Int) : Option (Int ⊕ ((Unit ⊕ (Int × Int × (List UInt8) × Int)))) :=
 bif (decide (k_60 < (o8.length : Int))) then
  (show Option ((List UInt8) × Bool) from
   (idx o8 i_54).bind fun x65 =>
   (idx o8 k_60).bind fun x77 =>
   (calqueref10_first N ([x65, x77] : List (List (List (Relation)))) 2).bind fun r97 =>
   some (r97.1, r97.2)).bind fun o63 =>
  bif o63.2 then
   some (.inr (.inr (i_54, k_60, o63.1, 19)))
  else
   some (.inl (k_60 + 1))
 else
  some (.inr (.inl ()))
def calqueref10_Disjoint_b2 (N : Nat) (o8 : ((List (List (List (Relation)))))) (i_54 : Int) : Option (Int ⊕ ((Unit ⊕ (Int × Int × (List UInt8) × Int)))) :=
 bif (decide (i_54 < (o8.length : Int))) then
  (iter (fun s => calqueref10_Disjoint_b3 N o8 i_54 s) N (i_54 + 1)).bind fun o58 =>
  Sum.elim (fun _o58 =>
   some (.inl (i_54 + 1)))
  (fun o58 =>
   some (.inr (.inr o58))) o58
 else
  some (.inr (.inl ()))
def calqueref10_Disjoint (N : Nat) (l_0 : List (Rule)) : Option (Int × Int × (List UInt8) × Int) :=
 (iter (fun s => calqueref10_Disjoint_b1 N l_0 s.1 s.2) N ([], 0)).bind fun o8 =>
 (calqueref10_valid N o8).bind fun r48 =>
 bif (!r48) then
  some (0, 0, [], 1)
 else
  (iter (fun s => calqueref10_Disjoint_b2 N o8 s) N 0).bind fun o52 =>
  Sum.elim (fun _o52 =>
   some (0, 0, [], 0))
  (fun o52 =>
   some o52) o52
def calqueref10_Total (N : Nat) (l_0 : List (List (List (Relation)))) : Option ((List UInt8) × Bool × Int) :=
 (calqueref10_valid N l_0).bind fun r1 =>
 bif (!r1) then
  some ([], false, 1)
 else
  (calqueref10_first N l_0 1).bind fun r4 =>
  some (r4.1, (!r4.2), 0)
def calqueref10_Satisfiable (N : Nat) (c_0 : List (List (Relation))) : Option ((List UInt8) × Bool × Int) :=
 (calqueref10_valid N ([c_0] : List (List (List (Relation))))).bind fun r9 =>
 bif (!r9) then
  some ([], false, 1)
 else
  (calqueref10_first N ([c_0] : List (List (List (Relation)))) 0).bind fun r20 =>
  some (r20.1, r20.2, 0)
def calqueref07_Text (N : Nat) (x_0 : Number2) : Option (List UInt8) :=
 (show Option ((List UInt8)) from
  bif (x_0.Frac != ([])) then
   (cat ([46]) x_0.Frac).bind fun s7 =>
   (cat x_0.Whole s7).bind fun s9 =>
   some s9
  else
   some x_0.Whole).bind fun o4 =>
 bif x_0.Neg then
  (cat x_0.Whole x_0.Frac).bind fun s13 =>
  (calqueref07_Zero N s13).bind fun r15 =>
  bif (!r15) then
   (cat ([45]) o4).bind fun s18 =>
   some s18
  else
   some o4
 else
  some o4
def calqueref14_Has (N : Nat) (l_0 : List (List UInt8)) (s_1 : List UInt8) : Option Bool :=
 (calqueref14_has N l_0 s_1).bind fun r1 =>
 some r1
end Go.Proofs.YtboacfcnmhnbdaaGreatDoor
namespace Go.Proofs.YtboacfcnmhnbdaaGreatDoor
open Go.X
variable {u : World} {m0 : Mem} {S : Segs} {w : World}
set_option maxHeartbeats 4000000
set_option maxRecDepth 100000
def calqueref07_Text_R (u : World) (m0 : Mem) (S : Segs) (r : (List UInt8)) (a : Act) (w : World) : Prop :=
 Ok u m0 S w ∧ a.defers = [] ∧ RVs Tryz.prog a w [.t 2 (.string (bs r))] ∧ r.length ≤ LIMS
theorem calqueref07_Text_w (N : Nat) (vx_0 : List Value) (x_0 : Number2) (hx_0 : pNumber2 m0 vx_0 x_0) {r : (List UInt8)} (hF : calqueref07_Text N x_0 = some r) (hG : Glob u) (ok : Ok u m0 S w) :
  Calls Tryz.prog 22 [.agg vx_0.toArray].toArray w fun e w' => (e = .returned (.string (bs r)) ∧ Ok u m0 S w') ∧ r.length ≤ LIMS := by
 obtain ⟨rfl, l1, l2⟩ := hx_0
 unfold calqueref07_Text at hF
 refine en (calqueref07_Text_R u m0 S) r Tryz.func22 rfl rfl rfl (by rintro a w ⟨ok, hd, hrv, h0⟩; exact c_ret2 [.t 2 (.string (bs r))] hd rfl hrv ⟨⟨rfl, ok⟩, h0⟩) fun fin a E => sg <| l_box E ok rfl rfl rfl fun b3 a w E ok => aw E rfl fun a E => wp_seq ?_
 refine c_region <| fv E fo_36_1 rfl fun a E => ld E ok one_9 0 rfl rfl rfl fun a E => aw E rfl fun a E => wp_seq <| wp_seq ?_
 refine c_region <| fv E fo_36_2 rfl fun a E => ld E ok one_9 0 rfl rfl rfl fun a E => lw E (y_sneq rfl rfl) fun a E => wn ?_
 obtain ⟨o4, hJ, hF⟩ := bnd hF
 refine c_mono (Q' := fun e a w => e = .normal ∧ Ok u m0 ([(b3, oc 36 [vb x_0.Neg, vs x_0.Whole, vs x_0.Frac])] :: S) w ∧ Env 28 a [(1, vp b3), (3, vs o4)] ∧ o4.length ≤ LIMS) ?_ ?_
 ·replace hF := hJ
  clear hJ
  refine cf E rfl hF (fun hc6 hF => ?_) fun hc6 hF => ?_
  rotate_left
  ·refine wp_skip ?_
   obtain rfl := sj hF
   exact ⟨rfl, ⟨ok, E.keep [1, 3], l1⟩⟩
  refine c_region <| mv E rfl fun a E => fv E fo_36_2 rfl fun a E => ld E ok one_9 0 rfl rfl rfl fun a E => ?_
  obtain ⟨s7, e8, hF⟩ := bnd hF
  refine lw E (y_cat rfl rfl e8) fun a E => ?_
  obtain ⟨s9, e10, hF⟩ := bnd hF
  refine lw E (y_cat rfl rfl e10) fun a E => av E rfl fun a E => wpList_nil ?_
  obtain rfl := sj hF
  exact ⟨rfl, ⟨ok, E.keep [1, 3], (cat_len e10)⟩⟩
 clear hJ
 intro e a w hO
 obtain ⟨rfl, ok, E, l11⟩ := hO
 refine t_norm <| wp_seq <| sg <| fv E fo_36_0 rfl fun a E => ld E ok one_4 0 rfl rfl rfl fun a E => mv E rfl fun a E => bsplit x_0.Neg (fun hc12 => ?_) (fun hc12 => ?_)
 rotate_left
 ·replace hF := cond_f hc12 hF
  replace E := E.upd 16 hc12 rfl
  refine ls E fun a E => ls E fun a E => ls E fun a E => ls E fun a E => ls E fun a E => ls E fun a E => ls E fun a E => pf E rfl rfl fun a E => ?_
  refine wn <| c_if E rfl (fun h => by cases h) (fun _ => ?_)
  refine wp_skip <| t_norm <| sg <| mv E rfl fun a E => aw E rfl fun a E => ?_
  refine wp_ret ?_
  exact fin hF ⟨ok.drop, E.d, ⟨rv_t E rfl, trivial⟩, l11⟩
 replace hF := cond_t hc12 hF
 replace E := E.upd 16 hc12 rfl
 refine fv E fo_36_1 rfl fun a E => ld E ok one_9 0 rfl rfl rfl fun a E => fv E fo_36_2 rfl fun a E => ld E ok one_9 0 rfl rfl rfl fun a E => ?_
 obtain ⟨s13, e14, hF⟩ := bnd hF
 refine lw E (y_cat rfl rfl e14) fun a E => ?_
 obtain ⟨r15, e16, hF⟩ := bnd hF
 refine lc E go_46 rfl (calqueref07_Zero_w N s13 (cat_len e14) e16 hG ok) fun w ok a E => lw E (y_not rfl) fun a E => pt E rfl rfl fun a E => wn <| cf E rfl hF (fun hc17 hF => ?_) fun hc17 hF => ?_
 rotate_left
 ·refine wp_skip <| t_norm <| sg <| mv E rfl fun a E => aw E rfl fun a E => ?_
  refine wp_ret ?_
  exact fin hF ⟨ok.drop, E.d, ⟨rv_t E rfl, trivial⟩, l11⟩
 refine sg <| mv E rfl fun a E => ?_
 obtain ⟨s18, e19, hF⟩ := bnd hF
 refine lw E (y_cat rfl rfl e19) fun a E => aw E rfl fun a E => wp_ret <| t_ret ?_
 exact fin hF ⟨ok.drop, E.d, ⟨rv_t E rfl, trivial⟩, (cat_len e19)⟩
def calqueref14_Has_R (u : World) (m0 : Mem) (S : Segs) (r : Bool) (a : Act) (w : World) : Prop :=
 Ok u m0 S w ∧ a.defers = [] ∧ RVs Tryz.prog a w [.t 4 (.bool r)]
theorem calqueref14_Has_w (N : Nat) (vl_0 : Value) (l_0 : List (List UInt8)) (hl_0 : (pL 1 pS) m0 [vl_0] l_0) (s_1 : List UInt8) (ls_1 : s_1.length ≤ LIMS) {r : Bool} (hF : calqueref14_Has N l_0 s_1 = some r) (hG : Glob u) (ok : Ok u m0 S w) :
  Calls Tryz.prog 23 [vl_0, vs s_1].toArray w fun e w' => (e = .returned (.bool r) ∧ Ok u m0 S w') := by
 unfold calqueref14_Has at hF
 refine en (calqueref14_Has_R u m0 S) r Tryz.func23 rfl rfl rfl (by rintro a w ⟨ok, hd, hrv⟩; exact c_ret2 [.t 4 (.bool r)] hd rfl hrv ⟨rfl, ok⟩) fun fin a E => sg <| aw E rfl fun a E => sg ?_
 refine mv E rfl fun a E => mv E rfl fun a E => ?_
 obtain ⟨r1, e2, hF⟩ := bnd hF
 refine lc E go_33 rfl (calqueref14_has_w N _ l_0 hl_0 s_1 ls_1 e2 hG ok) fun w ok a E => aw E rfl fun a E => wp_ret ?_
 exact fin hF ⟨ok, E.d, ⟨rv_t E rfl, trivial⟩⟩
end Go.Proofs.YtboacfcnmhnbdaaGreatDoor
namespace Go.X
section
variable {P : Program} {Q : Exit → Act → World → Prop} {n N : Nat} {L : List (Nat × Value)} {l : List Oper} {a : Act} {u w : World} {m : Mem} {S : Segs} {rest : List Oper} {ty : TypeId} {pos : String} {after : Array Edge} {g : Option (Nat × Bool)} {d k : Nat}
abbrev rf_ (k : Nat) : Fence := Fence.wide.inRound k
theorem r_op {op : Op} {v : Value} {w' : World} (E : Env n a L) (hnd : ∀ c, op ≠ .defer c) (hg : want l L g = some true) (hd : Nat.blt d n = true)
  (hr : (execOp a.eval ⟨some d, op, ty, pos, after, g⟩).run P w = .ok (.value v) w')
  (K : ∀ a', Env n a' ((d, v) :: L) → wpListIn (rf_ k) N P l.toArray Q rest a' w') : wpListIn (rf_ k) N P l.toArray Q (⟨some d, op, ty, pos, after, g⟩ :: rest) a w := by
 refine wpListIn_step fun K' hK' => ?_
 rw [E.want (o := ⟨some d, op, ty, pos, after, g⟩) hg, if_pos rfl]
 refine ⟨fun _ _ => trivial, ?_⟩
 rw [Oper.semAt_eq _ _ _ hnd, hr]
 exact hK' _ _ (K _ (E.put d v hd))
theorem r_op0 {op : Op} {w' : World} (E : Env n a L) (hnd : ∀ c, op ≠ .defer c) (hg : want l L g = some true)
  (hr : (execOp a.eval ⟨none, op, ty, pos, after, g⟩).run P w = .ok .skip w')
  (K : wpListIn (rf_ k) N P l.toArray Q rest a w') : wpListIn (rf_ k) N P l.toArray Q (⟨none, op, ty, pos, after, g⟩ :: rest) a w := by
 refine wpListIn_step fun K' hK' => ?_
 rw [E.want (o := ⟨none, op, ty, pos, after, g⟩) hg, if_pos rfl]
 refine ⟨fun _ _ => trivial, ?_⟩
 rw [Oper.semAt_eq _ _ _ hnd, hr]
 exact hK' _ _ K
theorem r_val {C : World → Prop} {op : Op} {v : Value} (E : Env n a L) (ok : C w) (y : Yields P C L op ty v) (hnd : ∀ c, op ≠ .defer c) (hg : want l L g = some true) (hd : Nat.blt d n = true)
  (K : ∀ a', Env n a' ((d, v) :: L) → wpListIn (rf_ k) N P l.toArray Q rest a' w) : wpListIn (rf_ k) N P l.toArray Q (⟨some d, op, ty, pos, after, g⟩ :: rest) a w :=
 r_op E hnd hg hd (y _ w _ _ _ _ (fun h => E.ev h) ok) K
theorem r_region {id : Nat} {l : List Oper} (h : wpListIn (rf_ k) N P l.toArray Q l a w) : (Code.region id l.toArray false).wpIn (rf_ k) N P Q a w := wpIn_region_lit h
end
theorem Ok.m_lt {u w : World} {m : Mem} {S : Segs} (ok : Ok u m S w) {b : Nat} {o : Obj} (h : m b = some o) : b < w.heap.size := (Array.getElem?_eq_some_iff.1 (ok.ro b o h)).1
section
variable {P : Program} {Q : Exit → Act → World → Prop} {n N : Nat} {L : List (Nat × Value)} {l : List Oper} {a : Act} {u w : World} {m : Mem} {S : Segs} {rest : List Oper} {ty : TypeId} {pos : String} {after : Array Edge} {g : Option (Nat × Bool)} {d k : Nat}
theorem store_one {b o : Nat} {c : List Value} {T : TypeId} {v : Value} (ok : Ok u m S w) (j : Nat) (hS : S[j]? = some [(b, .cells c.toArray T (0, 0))]) (h1 : v.oneCell' = true) (hb : o < c.length) :
  (store ⟨b, o, none⟩ v).run P w = .ok () (w.setCell ⟨b, o, none⟩ v) ∧ Ok u m (S.set j [(b, .cells (c.set o v).toArray T (0, 0))]) (w.setCell ⟨b, o, none⟩ v) := by
 have hown : w.heap[b]? = some (.cells c.toArray T (0, 0)) := (ok.own (b, .cells c.toArray T (0, 0)) (by
  have := List.mem_of_getElem? hS
  exact List.mem_flatten.2 ⟨_, this, by simp⟩)).1
 refine ⟨?_, ?_⟩
 ·have hcell : w.cell? ⟨b, o, none⟩ = some (c[o]'hb) := by simp [World.cell?, hown, hb]
  have hfz : w.frozen? ⟨b, o, none⟩ = false := by simp [World.frozen?, hown]
  cases v <;> simp [Value.oneCell'] at h1 <;> simp [store, Sem.run, hcell, hfz]
 ·refine Ok.setSeg j S _ _ w _ hS (fun T' ok' => ?_) ok
  have := ok'.setCell (off := o) v
  simpa using this
theorem r_store1 {t : TypeId} {x y : Operand} {b o : Nat} {c : List Value} {T : TypeId} {v : Value} (E : Env n a L) (ok : Ok u m S w) (j : Nat) (hS : S[j]? = some [(b, .cells c.toArray T (0, 0))])
  (hx : ev L x = some (.pointer (some ⟨b, o, none⟩))) (hy : ev L y = some v) (hi : ∃ i, P.info? t = some i ∧ i.size = 1) (hv : v.cells = #[v]) (h1 : v.oneCell' = true) (hb : Nat.blt o c.length = true) (hg : want l L g = some true)
  (K : Ok u m (S.set j [(b, .cells (c.set o v).toArray T (0, 0))]) (w.setCell ⟨b, o, none⟩ v) → wpListIn (rf_ k) N P l.toArray Q rest a (w.setCell ⟨b, o, none⟩ v)) :
  wpListIn (rf_ k) N P l.toArray Q (⟨none, .store t x y, ty, pos, after, g⟩ :: rest) a w := by
 obtain ⟨i, hi, hs⟩ := hi
 have hb' : o < c.length := by simpa [Nat.blt, Nat.succ_le_iff] using hb
 obtain ⟨hst, ok1⟩ := store_one (P := P) ok j hS h1 hb'
 refine r_op0 (w' := w.setCell ⟨b, o, none⟩ v) E (by intro c h; cases h) hg ?_ (K ok1)
 have hs' : (sizeOf t).run P w = .ok v.cells.size w := by rw [hv]; simp [sizeOf, typeInfo, hi, hs, go_sem]
 simp only [execOp, E.ev hx, E.ev hy, Instr.storeAt, Instr.sureAddr, storeVar, Sem.run_bind, Sem.run_pure, hs', Result.andThen_ok, ne_eq, not_true_eq_false, if_false]
 rw [hv]
 simp only [storeCells, addr_add, Nat.add_zero, Sem.run_bind, hst, Result.andThen_ok, Sem.run_pure]
end
theorem enterM {P : Program} {f : FuncId} {fn : Func} {c : Code} {vs : List Value} {w : World} {R : Ending → World → Prop} {n : Nat} (hf : P.funcs[f]? = some fn) (hb : fn.body = some c) (hn : fn.ntmps = n) (hle : Nat.ble vs.length n = true)
  (h : ∀ a, Env n a (num 0 vs) → c.wp P (bodyPostM Fence.wide 3 P fn R) a w) : Calls P f vs.toArray w R := by
 refine callsIn_wide.1 (callsIn_of_wp_marks (F := Fence.wide) (n := 3) hf hb trivial (wpIn_wide.2 (h _ ⟨rfl, ?_, fun i v hi => ?_⟩)))
 ·have := Nat.le_of_ble_eq_true hle
  simp [hn]; omega
 ·obtain ⟨_, h2⟩ := look_num vs 0 i v hi
  simp only [Nat.sub_zero] at h2
  obtain ⟨hlt, e⟩ := List.getElem?_eq_some_iff.1 h2
  rw [Array.getElem?_append_left (by simpa using hlt)]
  simpa using h2
theorem leaveD {P : Program} {fn : Func} {R : Ending → World → Prop} {a : Act} {w : World} {F : Fence} {n D : Nat} (hd : a.defers = []) (hK : w.heap[D]? = some (.deferred (some []))) (h : bodyPost P fn R .ret a (w.putObj D (.deferred none))) :
  bodyPostM F n P fn R .ret { a with defers := { target := .collected D, args := #[] } :: a.defers } w := by
 obtain ⟨_, v, hr, hR⟩ := h
 show LeavesInM F n P fn a.tmps R ({ target := .collected D, args := #[] } :: a.defers) .returning w
 rw [hd]
 exact ⟨by simp, .inl ⟨D, _, rfl, run_takeDeferred hK, v, hr, hR⟩⟩
section
variable {P : Program} {Q : Exit → Act → World → Prop} {n : Nat} {L : List (Nat × Value)} {l : List Oper} {a : Act} {u w : World} {m : Mem} {S : Segs} {rest : List Oper} {ty : TypeId} {pos : String} {after : Array Edge} {g : Option (Nat × Bool)} {d : Nat} {ds : List Deferred}
theorem d_val {C : World → Prop} {op : Op} {v : Value} (E : Env n a L) (ok : C w) (y : Yields P C L op ty v) (hg : want l L g = some true) (hd : Nat.blt d n = true)
  (K : ∀ a', Env n a' ((d, v) :: L) → wpList P l.toArray Q rest { a' with defers := ds } w) : wpList P l.toArray Q (⟨some d, op, ty, pos, after, g⟩ :: rest) { a with defers := ds } w := by
 refine wpList_step fun K' hK' => ?_
 have hw := E.want (o := ⟨some d, op, ty, pos, after, g⟩) hg
 rw [show ({ a with defers := ds } : Act).tmps = a.tmps from rfl, hw, if_pos rfl]
 unfold Oper.wp
 rw [show ({ a with defers := ds } : Act).eval = a.eval from funext fun x => by cases x <;> rfl, y a.eval w _ _ _ _ (fun h => E.ev h) ok]
 exact hK' _ _ (K _ (E.put d v hd))
end
end Go.X
namespace Go.X
open Go.RowKit
section
variable {P : Program} {Q : Exit → Act → World → Prop} {n N : Nat} {L : List (Nat × Value)} {l : List Oper} {a : Act} {u w : World} {m : Mem} {S : Segs} {rest : List Oper} {ty : TypeId} {pos : String} {after : Array Edge} {g : Option (Nat × Bool)} {d k : Nat}
theorem rows_in {row : String} {args : Array Value} {R : Value → World → Prop} (h : Rows P row args w R) : RowsIn (rf_ k) N P row args w R :=
 fun c cs _ => let ⟨v, w', r, s⟩ := h c cs; ⟨v, w', r, stepsIn_wide.2 s⟩
theorem upon_in {o : Oper} {next : Act → World → Prop} {K X : Act → World → Prop} {r : Result Next} (hn : ∀ a w, next a w → K a w)
  (h : o.upon P a next (fun e a w => e = .normal ∧ X a w) r) : o.uponIn (rf_ k) N P a K Q r := by
 cases r with
 | ok x w' =>
  cases x <;> first | exact hn _ _ h | exact h.elim | skip
  case enter f args =>
   refine ⟨fun h => (by cases h), CallsIn.mono (CallsIn.inRound k (callsIn_wide.2 h)) fun e w' hr => ?_⟩
   cases e with
   | returned v => exact hn _ _ hr
   | panicked c => exact absurd hr.1 (by simp)
   | outgrown => obtain ⟨_, _, h1, _⟩ := hr; cases h1
  case row r args => exact ⟨fun h => (by cases h), RowsIn.mono (rows_in h) fun _ _ hr => hn _ _ hr⟩
 | halt x w' =>
  cases x <;> first | exact h.elim | exact absurd h.1 (by simp)
theorem r_lift {o : Oper} (hnd : ∀ c, o.op ≠ .defer c) (h : ∀ K : Act → World → Prop, (∀ a w, wpListIn (rf_ k) N P l.toArray Q rest a w → K a w) → wpList P l.toArray (fun e a w => e = .normal ∧ K a w) [o] a w) :
  wpListIn (rf_ k) N P l.toArray Q (o :: rest) a w := by
 refine wpListIn_step fun K hK => ?_
 have h1 := h K hK
 unfold wpList at h1
 split at h1
 ·rename_i hw
  rw [if_pos hw]
  refine ⟨fun _ _ => trivial, ?_⟩
  rw [Oper.semAt_eq _ _ _ hnd]
  rcases h1 with h1 | ⟨_, h2⟩
  ·exact upon_in (next := fun a w => Exit.normal = .normal ∧ K a w) (X := K) (fun a w h => h.2) h1
  ·obtain ⟨_, _, h3, _⟩ := h2; cases h3
 ·rename_i hw
  rw [if_neg hw]
  exact ⟨fun _ _ => trivial, h1.2⟩
theorem rn {K : Act → World → Prop} (hK : ∀ a w, wpListIn (rf_ k) N P l.toArray Q rest a w → K a w) (h : wpListIn (rf_ k) N P l.toArray Q rest a w) : wpList P l.toArray (fun e a w => e = .normal ∧ K a w) [] a w := ⟨rfl, hK _ _ h⟩
theorem g_step {F : Fence} {o : Oper} (hF : F = Fence.wide) (hnd : ∀ c, o.op ≠ .defer c) (hg : Region.wanted o (yielded l.toArray a.tmps) = true) {f : FuncId} {ln : Nat} {tmps : Array Value} {s b : Code} {R : Ending → World → Prop}
  (hr : (execOp a.eval o).run P w = .ok (.round ln f tmps s b) w) (h : RoundIn F (N - 1) P ln f tmps s b w R) (K : ∀ e w', R e w' → ∃ v, e = .returned v ∧ wpListIn F N P l.toArray Q rest (a.put o.dst v) w') :
  wpListIn F N P l.toArray Q (o :: rest) a w := by
 refine wpListIn_step fun K' hK' => ?_
 subst hF
 rw [if_pos hg]
 refine ⟨fun _ _ => trivial, ?_⟩
 rw [Oper.semAt_eq _ _ _ hnd, hr, Oper.uponIn_round]
 refine ⟨fun h => (by cases h), RoundIn.mono h fun e w' he => ?_⟩
 obtain ⟨v, rfl, hv⟩ := K e w' he
 exact hK' _ _ hv
theorem upon_wide {o : Oper} {next : Act → World → Prop} {K X : Act → World → Prop} {r : Result Next} (hn : ∀ a w, next a w → K a w)
  (h : o.upon P a next (fun e a w => e = .normal ∧ X a w) r) : o.uponIn Fence.wide N P a K Q r := by
 cases r with
 | ok x w' =>
  cases x <;> first | exact hn _ _ h | exact h.elim | skip
  case enter f args =>
   refine ⟨fun h => (by cases h), CallsIn.mono (callsIn_wide.2 h) fun e w' hr => ?_⟩
   cases e with
   | returned v => exact hn _ _ hr
   | panicked c => exact absurd hr.1 (by simp)
   | outgrown => obtain ⟨_, _, h1, _⟩ := hr; cases h1
  case row r args => exact ⟨fun h => (by cases h), RowsIn.mono (rows_in (k := 0) h) fun _ _ hr => hn _ _ hr⟩
 | halt x w' =>
  cases x <;> first | exact h.elim | exact absurd h.1 (by simp)
theorem w_lift {o : Oper} (hnd : ∀ c, o.op ≠ .defer c) (h : ∀ K : Act → World → Prop, (∀ a w, wpListIn Fence.wide N P l.toArray Q rest a w → K a w) → wpList P l.toArray (fun e a w => e = .normal ∧ K a w) [o] a w) :
  wpListIn Fence.wide N P l.toArray Q (o :: rest) a w := by
 refine wpListIn_step fun K hK => ?_
 have h1 := h K hK
 unfold wpList at h1
 split at h1
 ·rename_i hw
  rw [if_pos hw]
  refine ⟨fun _ _ => trivial, ?_⟩
  rw [Oper.semAt_eq _ _ _ hnd]
  rcases h1 with h1 | ⟨_, h2⟩
  ·exact upon_wide (next := fun a w => Exit.normal = .normal ∧ K a w) (X := K) (fun a w h => h.2) h1
  ·obtain ⟨_, _, h3, _⟩ := h2; cases h3
 ·rename_i hw
  rw [if_neg hw]
  exact ⟨fun _ _ => trivial, h1.2⟩
theorem wn_ {K : Act → World → Prop} (hK : ∀ a w, wpListIn Fence.wide N P l.toArray Q rest a w → K a w) (h : wpListIn Fence.wide N P l.toArray Q rest a w) : wpList P l.toArray (fun e a w => e = .normal ∧ K a w) [] a w := ⟨rfl, hK _ _ h⟩
theorem w_yield {X : Operand} {ln : Nat} {xs : List Operand} {ats : Array TypeId} {vs : List Value} {R : Ending → World → Prop} (E : Env n a L) (hX : ev L X = some (.func (.yield ln) #[] #[])) (hx : evs L xs = some vs) (hy : YieldAt Fence.wide (N - 1) P ln vs.toArray w R) (hg : want l L g = some true) (hd : Nat.blt d n = true)
  (K : ∀ e w', R e w' → ∃ v, e = .returned v ∧ ∀ a', Env n a' ((d, v) :: L) → wpListIn Fence.wide N P l.toArray Q rest a' w') :
  wpListIn Fence.wide N P l.toArray Q (⟨some d, .call { callee := .value X, args := xs.toArray, argTypes := ats }, ty, pos, after, g⟩ :: rest) a w := by
 obtain ⟨fn, tmps, s, b, hr, hR⟩ := hy
 have hargs : xs.toArray.map a.eval = vs.toArray := by rw [List.map_toArray, E.evs hx]
 have hw := E.want (o := ⟨some d, .call { callee := .value X, args := xs.toArray, argTypes := ats }, ty, pos, after, g⟩) hg
 refine g_step rfl (by intro c h; cases h) hw (o := ⟨some d, .call { callee := .value X, args := xs.toArray, argTypes := ats }, ty, pos, after, g⟩) ?_ hR fun e w' he => ?_
 ·have : execOp a.eval ⟨some d, .call { callee := .value X, args := xs.toArray, argTypes := ats }, ty, pos, after, g⟩ = Instr.yield ln (#[] ++ xs.toArray.map a.eval ++ #[]) := by
   simp only [execOp, resolve, E.ev hX]; rfl
  rw [this, hargs, Array.empty_append, Array.append_empty]
  exact hr
 ·obtain ⟨v, rfl, hv⟩ := K e w' he
  exact ⟨v, rfl, hv _ (E.put d v hd)⟩
end
end Go.X
namespace Go.X
open Go.ChangeShapes Go.RowKit
def hm (W : World) : Mem := fun b => W.heap[b]?
theorem hm_cell {W : World} {a : Addr} {v : Value} (h : W.cell? a = some v) : (hm W).cell a = some v := h
theorem Ok.start (W : World) : Ok W (hm W) [] W :=
 ⟨rfl, rfl, rfl, fun _ _ h => h, fun _ (h : _ ∈ []) => absurd h List.not_mem_nil, List.Pairwise.nil, fun _ _ h => h⟩
theorem Ok.below {W W' : World} {S : Segs} (h : Ok W (hm W) S W') : Below W.heap.size W W' := by
 refine ⟨h.os, h.tape, h.out, ?_, fun k hk => ?_⟩
 ·by_cases h0 : W.heap.size = 0
  ·omega
  ·have := h.ro (W.heap.size - 1) (W.heap[W.heap.size - 1]'(by omega)) (by unfold hm; simp)
   have := (Array.getElem?_eq_some_iff.1 this).1
   omega
 ·have := h.ro k W.heap[k] (by unfold hm; simp [hk])
  rw [this]; simp [hk]
def Opn {α : Type} (P : Program) (t : TypeId) (R : Rp α) : Prop :=
 ∀ {H : Type} {enc : TypeId × Value → H} {W : World} {base : Nat} {spare : Nat → Bool} {held : Bool} {fuel : Nat} {cs : List Value} {x : DataW H × List MemPlace},
  DataW.trod enc P W base spare held fuel t cs = some x → ∃ a : α, R (hm W) cs a
theorem add_add (a : Addr) (i j : Nat) : a.add (i + j) = (a.add i).add j := by
 unfold Addr.add
 by_cases hi : i = 0 <;> by_cases hj : j = 0 <;> simp [hi, hj, Nat.add_assoc]
theorem add_none (b o i : Nat) : (⟨b, o, none⟩ : Addr).add i = ⟨b, o + i, none⟩ := by
 unfold Addr.add
 by_cases hi : i = 0 <;> simp [hi]
section
variable {P : Program} {t : TypeId}
theorem o_int {k : IntKind} (ht : P.underlying t = some (.int k)) : Opn P t (pI k) := fun h => by
 obtain ⟨n, rfl, _, hw⟩ := DataW.trod_int ht h
 refine ⟨n, rfl, ?_⟩
 simp only [Lit.wf, Bool.and_eq_true, decide_eq_true_eq] at hw
 exact hw
theorem o_bool (ht : P.underlying t = some .bool) : Opn P t pB := fun h => by
 obtain ⟨b, rfl, _⟩ := DataW.trod_bool ht h
 exact ⟨b, rfl⟩
theorem len2 {α : Type} {l : List α} (h : l.length = 2) : ∃ a b, l = [a, b] := match l, h with | [a, b], _ => ⟨a, b, rfl⟩
theorem len4 {α : Type} {l : List α} (h : l.length = 4) : ∃ a b c d, l = [a, b, c, d] := match l, h with | [a, b, c, d], _ => ⟨a, b, c, d, rfl⟩
end
end Go.X
namespace Go.X
open Go.RowKit
theorem y_idxA {P : Program} {C : World → Prop} {L : List (Nat × Value)} {ty t e : TypeId} {X I : Operand} {k n : Nat} {cs : List Value} {v : Value} {kd : IntKind} (ht : P.underlying t = some (.array n e)) (hi : ∃ i, P.info? e = some i ∧ i.size = 1) (h1 : oneB P e = true) (hX : ev L X = some (.agg cs.toArray)) (hI : ev L I = some (.int kd (k : Int))) (hk : k < n) (hc : cs[k]? = some v) :
  Yields P C L (Op.index t X I) ty v := by
 intro ρ w dst pos after g E ok
 obtain ⟨i, hi1, hi2⟩ := hi
 have hs : (sizeOf e).run P w = .ok 1 w := by simp [sizeOf, typeInfo, hi1, hi2, go_sem]
 have hp := part_one (P := P) (t := e) (cs := cs.toArray) (off := k) (v := v) h1 (by simpa using hc) w
 simp [part, go_sem] at hp
 simp [execOp, E hX, E hI, Instr.index, asIntOf, run_underlying ht, hs, hk, go_sem]
 rw [hp]
 rfl
theorem ORow.isCells {α : Type} {e k : Nat} {R : Rp α} {m : Mem} {v : Value} {xs : List α} {M : List (Nat × Obj)} (h : ORow e k R m v xs M) : ∀ p ∈ M, p.2.isCells = true := by
 rcases h with ⟨_, _, rfl⟩ | ⟨b, o, cap, c, _, rfl, _⟩
 ·intro p hp; cases hp
 ·intro p hp
  obtain rfl := List.mem_singleton.1 hp
  rfl
theorem ORow.block {α : Type} {e k : Nat} {R : Rp α} {m : Mem} {v : Value} {xs : List α} {M : List (Nat × Obj)} (h : ORow e k R m v xs M) (hx : xs ≠ []) : ∃ q, q ∈ M := by
 rcases h with ⟨_, h, _⟩ | ⟨b, o, cap, c, _, rfl, _⟩
 ·exact absurd h hx
 ·exact ⟨_, List.mem_singleton.2 rfl⟩
section
variable {u w w' : World} {m m' : Mem} {S S' : Segs}
theorem Ok.le_hm (ok : Ok u m S w) : m.le (hm w) := fun b o h => ok.ro b o h
def hmx (W : World) (S : Segs) : Mem := fun b => if b ∈ S.flatten.map (·.1) then none else W.heap[b]?
theorem Ok.hmx_le (ok : Ok u m S w) : m.le (hmx w S) := fun b o h => by
 unfold hmx
 rw [if_neg, ok.ro b o h]
 intro hb
 obtain ⟨p, hp, rfl⟩ := List.mem_map.1 hb
 have := (ok.own p hp).2
 rw [h] at this
 cases this
theorem Ok.full (ok : Ok u m S w) : Ok u (hmx w S) S w :=
 ⟨ok.os, ok.out, ok.tape, fun b o h => by
  unfold hmx at h
  split at h
  ·cases h
  ·exact h, fun p hp => ⟨(ok.own p hp).1, by unfold hmx; rw [if_pos (List.mem_map.2 ⟨p, hp, rfl⟩)]⟩, ok.nd, fun b o h => ok.hmx_le b o (ok.base b o h)⟩
theorem Ok.freshX {T : Segs} {q : Nat × Obj} (ok : Ok u (hmx w S) T w') (hq : q ∈ T.flatten) (hn : ∀ p ∈ S.flatten, p.1 ≠ q.1) : w.heap.size ≤ q.1 := by
 refine Nat.le_of_not_lt fun hlt => ?_
 have := (ok.own q hq).2
 unfold hmx at this
 rw [if_neg, Array.getElem?_eq_getElem hlt] at this
 ·cases this
 ·intro hb
  obtain ⟨p, hp, e⟩ := List.mem_map.1 hb
  exact hn p hp e
theorem Ok.keepsFrom {T : Segs} {q : Nat × Obj} (B : Nat) (ok0 : Ok u m S w) (hc : ∀ p ∈ S.flatten, p.2.isCells = true) (ok : Ok u (hmx w S) T w') (hq : q ∈ T.flatten) (hn : w.heap.size ≤ q.1) : KeepsFrom B w w' :=
 ⟨by
  have := (Array.getElem?_eq_some_iff.1 (ok.own q hq).1).1
  omega, fun k o _ hk ho => by
  refine ok.ro k o ?_
  unfold hmx
  rw [if_neg, hk]
  intro hb
  obtain ⟨p, hp, e⟩ := List.mem_map.1 hb
  have h1 := (ok0.own p hp).1
  rw [e, hk] at h1
  have h2 := hc p hp
  rw [← Option.some.inj h1] at h2
  rw [h2] at ho
  cases ho⟩
theorem Ok.plus {T : Segs} (ok : Ok u m S w) (okT : Ok w (hm w) T w') : Ok u m (T ++ S) w' := by
 have ok' := ok.below' okT.below
 have new : ∀ p ∈ T.flatten, w.heap[p.1]? = none := fun p hp => (okT.own p hp).2
 refine ⟨ok'.os, ok'.out, ok'.tape, ok'.ro, fun p hp => ?_, ?_, ok.base⟩
 ·rw [List.flatten_append] at hp
  rcases List.mem_append.1 hp with hp | hp
  ·refine ⟨(okT.own p hp).1, ?_⟩
   cases hmp : m p.1 with
   | none => rfl
   | some o => have := ok.ro _ _ hmp; rw [new p hp] at this; cases this
  ·exact ok'.own p hp
 ·rw [List.flatten_append, List.pairwise_append]
  refine ⟨okT.nd, ok.nd, fun p hp q hq e => ?_⟩
  have := (ok.own q hq).1
  rw [← e, new p hp] at this
  cases this
theorem Ok.init {A : Segs} (ok : Ok u m (A ++ S) w) : Ok u m A w :=
 ⟨ok.os, ok.out, ok.tape, ok.ro, fun p hp => ok.own p (by rw [List.flatten_append]; exact List.mem_append_left _ hp), by
  have := ok.nd
  rw [List.flatten_append, List.pairwise_append] at this
  exact this.1, ok.base⟩
theorem Ok.rejoin {A A' : Segs} (ok : Ok u m (A ++ S) w) (okA : Ok u (hmx w A) A' w') : Ok u m (A' ++ S) w' := by
 have hle := ok.init.hmx_le
 have hnd := ok.nd
 rw [List.flatten_append, List.pairwise_append] at hnd
 have hS : ∀ p ∈ S.flatten, hmx w A p.1 = some p.2 := fun p hp => by
  unfold hmx
  rw [if_neg, (ok.own p (by rw [List.flatten_append]; exact List.mem_append_right _ hp)).1]
  intro hb
  obtain ⟨q, hq, e⟩ := List.mem_map.1 hb
  exact hnd.2.2 q hq p hp e
 refine ⟨okA.os, okA.out, okA.tape, fun b o h => okA.ro b o (hle b o h), fun p hp => ?_, ?_, ok.base⟩
 ·rw [List.flatten_append] at hp
  rcases List.mem_append.1 hp with hp | hp
  ·refine ⟨(okA.own p hp).1, ?_⟩
   cases hmp : m p.1 with
   | none => rfl
   | some o => have h1 := hle _ _ hmp; rw [(okA.own p hp).2] at h1; cases h1
  ·exact ⟨okA.ro _ _ (hS p hp), (ok.own p (by rw [List.flatten_append]; exact List.mem_append_right _ hp)).2⟩
 ·rw [List.flatten_append, List.pairwise_append]
  refine ⟨okA.nd, hnd.2.1, fun p hp q hq e => ?_⟩
  have h1 := (okA.own p hp).2
  rw [e, hS q hq] at h1
  cases h1
theorem Ok.grownC {row : Option Nat} {B : Nat} (ok : Ok u m S w) (h : w.grownBy w' row) (hr : ∀ r, row = some r → B ≤ r ∧ ∃ o : Obj, w.heap[r]? = some o ∧ o.isCells = false) (hm : ∀ b o, m b = some o → b < B) (hS : ∀ p ∈ S.flatten, p.1 < B ∨ p.2.isCells = true) : Ok u m S w' := by
 refine ⟨h.os.trans ok.os, h.output.trans ok.out, h.tape.trans ok.tape, fun b o hb => ?_, fun p hp => ⟨?_, (ok.own p hp).2⟩, ok.nd, ok.base⟩
 ·have h1 := ok.ro b o hb
  rw [h.block b (Array.getElem?_eq_some_iff.1 h1).1 (fun e => by have := (hr b e.symm).1; have := hm b o hb; omega)]
  exact h1
 ·have h1 := (ok.own p hp).1
  rw [h.block p.1 (Array.getElem?_eq_some_iff.1 h1).1 (fun e => by
   obtain ⟨hB, o, ho, hco⟩ := hr p.1 e.symm
   rcases hS p hp with hlt | hc
   ·omega
   ·rw [h1] at ho; cases ho; rw [hc] at hco; cases hco)]
  exact h1
end
theorem env_loosen {n : Nat} {a : Act} {L : List (Nat × Value)} {t : Array Value} (E : Env n a L) (h : t = a.tmps) : Env n { tmps := t, defers := [] } L := by
 subst h
 exact ⟨rfl, E.sz, E.get⟩
end Go.X
namespace Go.Proofs.YtboacfcnmhnbdaaGreatDoor
open Go.X
def plural_pc (N : Nat) (l : List Rule) : List (List UInt8) → List (List UInt8) → Option (List (List UInt8))
 | [], acc => some acc
 | c :: cs, acc => (plural_find N l c).bind fun r => bif r.2 then plural_pc N l cs (acc ++ [c]) else plural_pc N l cs acc
def plural_cls : List (List UInt8) := [[122, 101, 114, 111], [111, 110, 101], [116, 119, 111], [102, 101, 119], [109, 97, 110, 121], [111, 116, 104, 101, 114]]
def plural_collect (N : Nat) (l : List Rule) : Option (List (List UInt8)) := plural_pc N l plural_cls []
def plural_Classes (N : Nat) (l_0 : List (Rule)) : Option ((List (List UInt8)) × Int) :=
 (plural_Valid N l_0).bind fun r1 =>
 bif (!r1) then
  some ([], 1)
 else
  (plural_check N l_0).bind fun r4 =>
  bif (r4 != 0) then
   some ([], r4)
  else
   (plural_collect N l_0).bind fun r9 =>
   some (r9, 0)
end Go.Proofs.YtboacfcnmhnbdaaGreatDoor
namespace Go.Proofs.YtboacfcnmhnbdaaGreatDoor
open Go.X
theorem go_43 : goB Tryz.prog 43 = true := by kernel_rfl
theorem go_44 : goB Tryz.prog 44 = true := by kernel_rfl
theorem plural_occurring_w {u : World} {m0 : Mem} {S : Segs} {w : World} {v : Value} (hc : v.cells.toList = [v]) (ok : Ok u m0 S w) :
  Calls Tryz.prog 44 [v].toArray w fun e w' => ∃ b, e = .returned (.func (.func 67) #[] #[.pointer (some ⟨b, 0, none⟩)]) ∧ Ok u m0 ([(b, Obj.cells [v].toArray 22 (0, 0))] :: S) w' := by
 refine enter Tryz.func44 rfl rfl rfl fun a E => ?_
 refine wp_seq ?_
 refine c_region ?_
 refine l_boxC (cs := [v]) E ok rfl hc rfl rfl fun Bs a w E ok => ?_
 refine l_val E ok (y_assign rfl) rfl rfl fun a E => ?_
 refine wpList_nil ?_
 refine t_norm ?_
 refine wp_seq ?_
 refine c_region ?_
 refine l_val E ok (y_makeFunc (caps := [.tmp 1]) rfl) rfl rfl fun a E => ?_
 refine l_val E ok (y_assign rfl) rfl rfl fun a E => ?_
 refine wpList_nil ?_
 refine t_norm ?_
 refine wp_ret ?_
 exact c_ret2 [.t 2 (.func (.func 67) #[] #[.pointer (some ⟨Bs, 0, none⟩)])] E.d rfl ⟨rv_t E rfl, trivial⟩ ⟨Bs, rfl, ok⟩
theorem one_22C : oneB Tryz.prog 22 = true := by kernel_rfl
theorem one_32C : oneB Tryz.prog 32 = true := by kernel_rfl
theorem go_66C : goB Tryz.prog 66 = true := by kernel_rfl
theorem go_37C : goB Tryz.prog 37 = true := by kernel_rfl
theorem go_55C : goB Tryz.prog 55 = true := by kernel_rfl
set_option maxRecDepth 100000 in
theorem inf_32C : ∃ i, Tryz.prog.info? 32 = some i ∧ i.size = 1 := ⟨_, rfl, by kernel_rfl⟩
theorem plural_cls_le : ∀ c ∈ plural_cls, c.length ≤ 100 := by decide
abbrev Bs1 := { s : List UInt8 // s.length ≤ 100 }
theorem Tab.to {u w : World} {m : Mem} {S : Segs} (hT : Tab u) (ok : Ok u m S w) : Tab w := by
 unfold Tab Lib.TabIs World.var? at hT ⊢
 cases hg : Tryz.prog.globalNamed "internal/strconv.uint64pow10" with
 | none => rw [hg] at hT; cases hT
 | some g =>
  rw [hg] at hT
  simp only [Option.bind_some] at hT ⊢
  cases hb : u.heap[g]? with
  | none => rw [hb] at hT; cases hT
  | some o => rw [ok.ro g o (ok.base g o hb)]; rw [hb] at hT; exact hT
theorem Glob.to {u w : World} {m : Mem} {S : Segs} (hG : Glob u) (ok : Ok u m S w) : Glob w := by
 obtain ⟨mx, h⟩ := hG
 exact ⟨mx, ok.glob h⟩
def clsV : List Value := [.string (bs [122, 101, 114, 111]), .string (bs [111, 110, 101]), .string (bs [116, 119, 111]), .string (bs [102, 101, 119]), .string (bs [109, 97, 110, 121]), .string (bs [111, 116, 104, 101, 114])]
def KpO (u : World) (m : Mem) (T : Segs) (A B : World) : Prop := Ok u m T A → Ok u m T B
theorem occ_stops {u : World} {m0 : Mem} {N b : Nat} {v : Value} {l : List Rule} {r : List (List UInt8)} (hl : (pL 2 pRule) m0 [v] l) (hF : plural_collect N l = some r) (hG : Glob u) (hTb : Tab u) {w : World} (ok : Ok u m0 [[(b, Obj.cells [v].toArray 22 (0, 0))]] w) :
  SeqStopsK Fence.wide 2 Tryz.prog 67 #[.pointer (some ⟨b, 0, none⟩)] (fun x : Bs1 => #[Value.string (bs x.1)]) (KpO u m0 [[(b, Obj.cells [v].toArray 22 (0, 0))]]) (fun ys => ys.map (·.1) = r) (fun _ => True) 6 w := by
 intro ln J Jx W hW hJ hJx hY h0
 have okW : Ok u m0 [[(b, Obj.cells [v].toArray 22 (0, 0))]] W := ok.below' hW
 clear hW ok
 refine callsIn_wide.2 ?_
 rw [show (#[Value.func (.yield ln) #[] #[]] ++ #[Value.pointer (some ⟨b, 0, none⟩)] : Array Value) = [Value.func (.yield ln) #[] #[], Value.pointer (some ⟨b, 0, none⟩)].toArray from by simp]
 have grow : ∀ {A B : World} {ys : List Bs1}, J ys A → Go.RowKit.Below A.heap.size A B → J ys B := fun hA hb => hJ _ _ _ none hA ⟨hb.os, hb.tape, hb.output, hb.size, fun k hk _ => hb.block k hk⟩ (fun r e => by cases e)
 refine enter Tryz.func67 rfl rfl rfl fun a E => ?_
 refine wp_seq ?_
 refine c_region ?_
 refine l_call E go_55C rfl (plural_order_w N rfl (hG.to okW) (Ok.start W)) rfl rfl ?_
 rintro _ w ⟨m1, v0, rfl, hle, ok1, hv0⟩
 obtain ⟨rfl, _⟩ := hv0
 refine ⟨_, rfl, fun a E => ?_⟩
 have bel := (ok1.down (fun b o h => h) hle).below
 replace h0 := grow h0 bel
 replace okW := okW.below' bel
 clear bel ok1 hle
 refine lv E okW (y_move rfl) fun a E => ?_
 have E0 : Env 25 a [(8, .int .i64 ((0 : Nat) : Int)), (7, .agg clsV.toArray), (1, .pointer (some ⟨b, 0, none⟩)), (0, .func (.yield ln) #[] #[])] := E.keep [8, 7, 1, 0]
 refine wn ?_
 refine wp_block ?_
 unfold plural_collect at hF
 refine c_loopM (fun n a w => ∃ (k : Nat) (acc : List Bs1), n = 6 - k ∧ k ≤ 6 ∧ Env 25 a [(8, .int .i64 k), (7, .agg clsV.toArray), (1, .pointer (some ⟨b, 0, none⟩)), (0, .func (.yield ln) #[] #[])] ∧ Ok u m0 [[(b, Obj.cells [v].toArray 22 (0, 0))]] w ∧ J acc w ∧ plural_pc N l (plural_cls.drop k) (acc.map (·.1)) = some r ∧ acc.length ≤ k) ?_ 6 _ _ ⟨0, [], rfl, by omega, E0, okW, h0, hF, by simp⟩
 rintro n a w ⟨k, acc, rfl, hk, E, okW, hJw, hpc, hlen⟩
 refine sg <| lv E okW (y_lss rfl rfl) fun a E => wn <| wp_seq <| c_if E rfl (fun hc => ?_) (fun hc => ?_)
 rotate_left
 ·refine wp_exit <| t_exit ?_
  refine .inr ⟨by nofun, ?_⟩
  refine b_hit ?_
  have hk6 : k = 6 := by have := of_decide_eq_false hc; omega
  subst hk6
  have hr : acc.map (·.1) = r := by
   have : plural_cls.drop 6 = [] := rfl
   rw [this] at hpc
   exact Option.some.inj hpc
  exact c_ret2 (R := fun e W' => (∃ v, e = Ending.returned v) ∧ ((∃ xs : List Bs1, xs.map (·.1) = r ∧ J xs W') ∨ (∃ pre, True ∧ Jx pre W'))) (fn := Tryz.f67) (P := Tryz.prog) [] E.d rfl trivial ⟨⟨_, rfl⟩, .inl ⟨acc, hr, hJw⟩⟩
 have hk6 : k < 6 := by have := of_decide_eq_true hc; omega
 obtain ⟨c, hcl, hdr⟩ : ∃ c, plural_cls[k]? = some c ∧ plural_cls.drop k = c :: plural_cls.drop (k + 1) := by
  have hlt : k < plural_cls.length := hk6
  exact ⟨plural_cls[k], List.getElem?_eq_getElem hlt, List.drop_eq_getElem_cons hlt⟩
 have hc100 : c.length ≤ 100 := plural_cls_le c (List.mem_of_getElem? hcl)
 rw [hdr, plural_pc] at hpc
 obtain ⟨fr, hfr, hpc⟩ := bnd hpc
 have hix : clsV[k]? = some (.string (bs c)) := by
  have : clsV = plural_cls.map fun c => Value.string (bs c) := rfl
  rw [this, List.getElem?_map, hcl]; rfl
 refine wp_skip <| t_norm <| wp_seq <| wp_block <| wp_seq <| c_region ?_
 refine lv E okW (y_idxA Tryz.underlying80 inf_9 one_9 rfl rfl hk6 hix) fun a E => lv E okW (y_assign rfl) fun a E => wn <| wp_seq <| c_region ?_
 refine lv E okW (y_load one_22C rfl (Holds.own 0 rfl rfl)) fun a E => lv E okW (y_move rfl) fun a E => ?_
 have hlw := (mL mRule).up okW.le_hm hl
 refine l_call E go_37C rfl (plural_find_w N v l hlw c (by unfold LIMS; omega) hfr (hG.to okW) (hTb.to okW) (Ok.start w)) rfl rfl ?_
 rintro _ w2 ⟨⟨rfl, ok2⟩, _⟩
 refine ⟨_, rfl, fun a E => ?_⟩
 have bel := ok2.below
 replace hJw := grow hJw bel
 replace okW := okW.below' bel
 clear bel ok2 hlw
 refine lv E okW (y_move rfl) fun a E => lv E okW (y_extract rfl rfl) fun a E => lv E okW (y_extract rfl rfl) fun a E => lv E okW (y_assign rfl) fun a E => lv E okW (y_assign rfl) fun a E => wn <| wp_seq ?_
 cases hfr2 : fr.2 with
 | false =>
  rw [hfr2, cond_false] at hpc
  replace E := E.keep [8, 7, 6, 4, 1, 0]
  rw [hfr2] at E
  refine c_region ?_
  refine lv E okW (y_move rfl) fun a E => lv E okW (y_move rfl) fun a E => ls E fun a E => ls E fun a E => ls E fun a E => ls E fun a E => lv E okW (y_pickF rfl rfl) fun a E => wn <| c_if E rfl (fun h => by cases h) (fun _ => ?_)
  refine wp_skip <| b_norm <| t_norm ?_
  refine c_region ?_
  refine lv E okW (y_addw rfl rfl) fun a E => lv E okW (y_move rfl) fun a E => ?_
  refine wpList_nil (.inl ⟨rfl, 6 - (k + 1), by omega, k + 1, acc, rfl, by omega, ?_, okW, hJw, hpc, by omega⟩)
  have hw : IntKind.wrap .i64 ((k : Int) + 1) = ((k + 1 : Nat) : Int) := by rw [wrap_of (inR_i64.2 ⟨by omega, by omega⟩)]; omega
  rw [hw] at E
  exact E.keep [8, 7, 1, 0]
 | true =>
  rw [hfr2, cond_true] at hpc
  replace E := E.keep [8, 7, 6, 4, 1, 0]
  rw [hfr2] at E
  obtain ⟨x, hx⟩ : ∃ x : Bs1, x.1 = c := ⟨⟨c, hc100⟩, rfl⟩
  have hy := hY acc x w2 hJw (by omega)
  simp only [hx] at hy
  refine (wpIn_wide (n := 2)).1 (wpIn_region_lit ?_)
  refine w_lift (by intro c h; cases h) fun K hK => lv E okW (y_move rfl) fun a E => wn_ hK ?_
  refine w_lift (by intro c h; cases h) fun K hK => lv E okW (y_move rfl) fun a E => wn_ hK ?_
  refine w_lift (by intro c h; cases h) fun K hK => lv E okW (y_move rfl) fun a E => wn_ hK ?_
  refine w_lift (by intro c h; cases h) fun K hK => lv E okW (y_move rfl) fun a E => wn_ hK ?_
  refine w_yield E rfl rfl hy rfl rfl ?_
  rintro e w3 (⟨rfl, hJ3, hK3⟩ | ⟨rfl, hJ3⟩)
  ·refine ⟨_, rfl, fun a E => ?_⟩
   have ok3 := hK3 okW
   refine w_lift (by intro c h; cases h) fun K hK => lv E ok3 (y_not rfl) fun a E => wn_ hK ?_
   refine w_lift (by intro c h; cases h) fun K hK => lv E ok3 (y_pickT rfl rfl) fun a E => wn_ hK ?_
   refine wpListIn_nil (t_norm ?_)
   refine c_if E rfl (fun h => by cases h) (fun _ => ?_)
   refine wp_skip <| b_norm <| t_norm ?_
   refine c_region ?_
   refine lv E ok3 (y_addw rfl rfl) fun a E => lv E ok3 (y_move rfl) fun a E => ?_
   refine wpList_nil (.inl ⟨rfl, 6 - (k + 1), by omega, k + 1, acc ++ [x], rfl, by omega, ?_, ok3, hJ3, ?_, by simp; omega⟩)
   ·have hw : IntKind.wrap .i64 ((k : Int) + 1) = ((k + 1 : Nat) : Int) := by rw [wrap_of (inR_i64.2 ⟨by omega, by omega⟩)]; omega
    rw [hw] at E
    exact E.keep [8, 7, 1, 0]
   ·rw [List.map_append, List.map_cons, List.map_nil, hx]; exact hpc
  ·refine ⟨_, rfl, fun a E => ?_⟩
   have okT : (fun _ : World => True) w3 := trivial
   refine w_lift (by intro c h; cases h) fun K hK => lw E (y_not rfl) fun a E => wn_ hK ?_
   refine w_lift (by intro c h; cases h) fun K hK => lw E (y_pickT rfl rfl) fun a E => wn_ hK ?_
   refine wpListIn_nil (t_norm ?_)
   refine c_if E rfl (fun _ => ?_) (fun h => by cases h)
   refine wp_ret <| b_ret <| t_ret ?_
   refine .inr ⟨by nofun, ?_⟩
   refine b_ret ?_
   exact c_ret2 (R := fun e W' => (∃ v, e = Ending.returned v) ∧ ((∃ xs : List Bs1, xs.map (·.1) = r ∧ J xs W') ∨ (∃ pre, True ∧ Jx pre W'))) (fn := Tryz.f67) (P := Tryz.prog) [] E.d rfl trivial ⟨⟨_, rfl⟩, .inr ⟨_, trivial, hJ3⟩⟩
structure Apx (u : World) (m : Mem) (Tb : List (Nat × Obj)) (S : Segs) (Bs : Nat) (pre : List Bs1) (W : World) : Prop where
 ex : ∃ (v : Value) (M : List (Nat × Obj)), Ok u m ([(Bs, Obj.cells [v].toArray 32 (0, 0))] :: M :: Tb :: S) W ∧ ORow 9 1 pS m v (pre.map (·.1)) M
theorem append_seq_w {u : World} {m0 : Mem} {S : Segs} {Tb : List (Nat × Obj)} {w : World} {gf NN : Nat} {lb : Array Value} {r : List (List UInt8)} (hN : NN ≤ 1000000) (eg : ∀ args w, (callFunc gf args).run Tryz.prog w = .ok (.enter gf args) w)
  (hT : ∀ p ∈ Tb, p.2.isCells = true) (hseq : SeqStopsK Fence.wide 2 Tryz.prog gf lb (fun x : Bs1 => #[Value.string (bs x.1)]) (KpO u m0 [Tb]) (fun ys => ys.map (·.1) = r) (fun _ => True) NN w) (ok : Ok u m0 (Tb :: S) w) :
  Calls Tryz.prog 66 [.slice none 0 0, .func (.func gf) #[] lb].toArray w fun e w' => ∃ v M, e = .returned v ∧ Ok u m0 (M :: Tb :: S) w' ∧ ORow 9 1 pS m0 v r M := by
 refine enterM Tryz.func66 rfl rfl rfl fun a E => ?_
 have hTS : ∀ p ∈ (Tb :: S).flatten, p.1 < w.heap.size := fun p hp => (Array.getElem?_eq_some_iff.1 (ok.own p hp).1).1
 have hmlt : ∀ b o, m0 b = some o → b < w.heap.size := fun b o h => ok.m_lt h
 refine wp_seq ?_
 refine c_region ?_
 refine l_box E (Ok.start w) rfl rfl rfl fun Bs a w1 E okB => ?_
 have bel := okB.below
 have ok1 : Ok u m0 ([(Bs, Obj.cells [(Value.slice none 0 0)].toArray 32 (0, 0))] :: [] :: Tb :: S) w1 := ok.addnil.plus okB
 have hBs : w.heap.size ≤ Bs := by
  have := (okB.own (Bs, _) (List.mem_flatten.2 ⟨_, List.mem_cons_self .., List.mem_cons_self ..⟩)).2
  exact Nat.le_of_not_lt fun hlt => by
   simp only at this
   unfold hm at this
   rw [Array.getElem?_eq_getElem hlt] at this
   cases this
 have hBlt : Bs < w1.heap.size := (Array.getElem?_eq_some_iff.1 (ok1.own (Bs, _) (List.mem_flatten.2 ⟨_, List.mem_cons_self .., List.mem_cons_self ..⟩)).1).1
 refine lv E ok1 (y_assign rfl) fun a E => wn <| wp_seq <| wp_seq <| c_region ?_
 refine lv E ok1 (y_move rfl) fun a E => wn ?_
 refine wp_block ?_
 have hsz := bel.size
 have hokg : ∀ {v : Value} {xs : List (List UInt8)} {M : List (Nat × Obj)} {X Y : World} {row : Option Nat}, Ok u m0 ([(Bs, Obj.cells [v].toArray 32 (0, 0))] :: M :: Tb :: S) X → ORow 9 1 pS m0 v xs M → X.grownBy Y row → (∀ r, row = some r → w1.heap.size ≤ r ∧ ∃ o : Obj, X.heap[r]? = some o ∧ o.isCells = false) → Ok u m0 ([(Bs, Obj.cells [v].toArray 32 (0, 0))] :: M :: Tb :: S) Y := fun h1 h2 hg hr => by
  refine h1.grownC (B := w1.heap.size) hg hr (fun b o h => by have := hmlt b o h; omega) (fun p hp => ?_)
  simp only [List.flatten_cons, List.mem_append] at hp
  rcases hp with hp | hp | hp
  ·right; obtain rfl := List.mem_singleton.1 hp; rfl
  ·right; exact h2.isCells p hp
  ·left; have := hTS p (by simp only [List.flatten_cons, List.mem_append]; exact hp); omega
 have hgrow : ∀ {pre : List Bs1} {X Y : World} {row : Option Nat}, Apx u m0 Tb S Bs pre X → X.grownBy Y row → (∀ r, row = some r → w1.heap.size ≤ r ∧ ∃ o : Obj, X.heap[r]? = some o ∧ o.isCells = false) → Apx u m0 Tb S Bs pre Y := fun hX hg hr => by
  obtain ⟨v, M, h1, h2⟩ := hX.ex
  exact ⟨v, M, hokg h1 h2 hg hr, h2⟩
 have E0 : Env 13 a [(6, .func (.func gf) #[] lb), (2, .pointer (some ⟨Bs, 0, none⟩))] := E.keep [6, 2]
 refine (wpIn_wide (n := 3)).1 (wpIn_rangeFunc_ownH (n := 3) (α := Bs1) (gf := gf) (lb := lb) (N := NN) (w0 := w) (encs := fun x : Bs1 => #[Value.string (bs x.1)]) (Kp := KpO u m0 [Tb]) rfl (by decide) (E0.ev rfl) trivial eg
  hseq
  (fun h k o => k (h o)) (fun W l o o' hl h1 h2 h3 hok => ?_) bel (fun _ => rfl)
  (fun pre W => Apx u m0 Tb S Bs pre W)
  (fun c pre W => False)
  (fun pre X Y row h hg hr => hgrow h hg hr)
  (fun c pre X Y row h hg hr => h)
  ⟨_, _, ok1, ORow.nil⟩
  (fun x a' _ => Env 13 a' [(5, Value.string (bs x.1)), (2, (Value.pointer (some ⟨Bs, 0, none⟩)))])
  (fun _ _ _ _ _ _ h _ _ => h) ?_ ?_ ?_ ?_)
 ·-- the loop's record is none of the iterator's cells
  refine hok.grownC (B := w1.heap.size) (grownBy_putObj' W l o') (fun r e => by cases e; exact ⟨hl, o, h1, h2⟩) (fun b o h => by have := hmlt b o h; omega) (fun p hp => .inl ?_)
  have := hTS p (by simp only [List.flatten_cons, List.flatten_nil, List.append_nil] at hp; simp only [List.flatten_cons, List.mem_append]; exact .inl hp)
  omega
 ·-- the loop's variable
  intro l pre x W K hI hK
  obtain ⟨v, M, okW, hrow⟩ := hI.ex
  have E1 := E0.put 7 (Value.string (bs x.1)) rfl
  replace E1 := env_loosen E1 (t := ((#[7] : Array Nat).zip #[Value.string (bs x.1)]).foldl (fun t (p : Nat × Value) => t.setIfInBounds p.1 p.2) a.tmps) (by simp [Act.put])
  refine r_region ?_
  refine r_val E1 okW (y_assign rfl) (by intro c h; cases h) rfl rfl fun a1 E1 => ?_
  refine wpListIn_nil ?_
  refine t_norm ?_
  exact hK _ _ (KeepsFrom.refl _ _) (fun h => h) hI (E1.keep [5, 2])
 ·-- a round
  intro l pre x a' W hl hrec hI hAx hlen
  obtain ⟨v, M, okW, hrow⟩ := hI.ex
  have hx : x.1.length ≤ LIMS := by have := x.2; unfold LIMS; omega
  have hcells : ∀ p ∈ ([(Bs, Obj.cells [v].toArray 32 (0, 0))] :: M :: Tb :: []).flatten, p.2.isCells = true := fun p hp => by
   simp only [List.flatten_cons, List.flatten_nil, List.append_nil, List.mem_append] at hp
   rcases hp with hp | hp | hp
   ·obtain rfl := List.mem_singleton.1 hp; rfl
   ·exact hrow.isCells p hp
   ·exact hT p hp
  have okA : Ok u m0 ([(Bs, Obj.cells [v].toArray 32 (0, 0))] :: M :: Tb :: []) W := Ok.init (A := [(Bs, Obj.cells [v].toArray 32 (0, 0))] :: M :: Tb :: []) okW
  have okF := okA.full
  have hrF : ORow 9 1 pS (hmx W ([(Bs, Obj.cells [v].toArray 32 (0, 0))] :: M :: Tb :: [])) v (pre.map (·.1)) M := hrow
  refine wpIn_block ?_
  refine r_region ?_
  refine r_val hAx okF (y_load one_32C rfl (Holds.own 0 rfl rfl)) (by intro c h; cases h) rfl rfl fun a' E => ?_
  refine r_val E okF (y_move rfl) (by intro c h; cases h) rfl rfl fun a' E => ?_
  refine r_lift (by intro c h; cases h) fun K hK => l_slit (R := pS) (xo := [.tmp 9]) (xs := [x.1]) E okF sl_32 zero_9 rfl ⟨⟨_, rfl, rfl, ⟨rfl, hx⟩⟩, trivial⟩ rfl rfl rfl rfl fun v1 M1 a' W1 E ok1 hrow1 => rn hK ?_
  have hz : app (pre.map (·.1)) [x.1] = some (pre.map (·.1) ++ [x.1]) := by unfold app LIM; rw [if_pos (by simp; omega)]
  refine r_lift (by intro c h; cases h) fun K hK => l_app E ok1 2 mS sl_32 Tryz.underlying32 rfl hrF (SrcOK.ofRow hrow1 0 rfl ok1) hz ⟨_, zero_9, rfl⟩ rfl rfl rfl rfl fun v2 M2 a' W2 E ok2 hrow2 => rn hK ?_
  refine r_store1 E ok2 1 rfl rfl rfl inf_32C (by obtain ⟨⟨ad, cap, rfl⟩, _⟩ := hrow2.form; rfl) hrow2.one rfl rfl fun ok3 => ?_
  refine wpListIn_nil ?_
  refine b_norm ?_
  replace ok3 : Ok u (hmx W ([(Bs, Obj.cells [v].toArray 32 (0, 0))] :: M :: Tb :: [])) (M1 :: [(Bs, Obj.cells [v2].toArray 32 (0, 0))] :: M2 :: Tb :: []) _ := ok3
  obtain ⟨q, hq⟩ := hrow1.block (by simp)
  have hfr : W.heap.size ≤ q.1 := ok1.freshX (List.mem_flatten.2 ⟨_, List.mem_cons_self .., hq⟩) (fun p hp e => by
   have := ok1.nd
   rw [List.flatten_cons, List.pairwise_append] at this
   exact this.2.2 q hq p hp e.symm)
  have hfin : Ok u m0 ([(Bs, Obj.cells [v2].toArray 32 (0, 0))] :: M2 :: Tb :: S) _ := Ok.rejoin (A := [(Bs, Obj.cells [v].toArray 32 (0, 0))] :: M :: Tb :: []) (A' := [(Bs, Obj.cells [v2].toArray 32 (0, 0))] :: M2 :: Tb :: []) okW ok3.drop
  refine ⟨okA.keepsFrom _ hcells ok3 (List.mem_flatten.2 ⟨_, List.mem_cons_self .., hq⟩) hfr, fun _ => Ok.init (A := [Tb]) hfin.drop.drop, ⟨v2, M2, hfin, ?_⟩⟩
  rw [List.map_append]
  exact hrow2
 ·-- all rounds are over
  rintro D xs W hD hxs hA hDef
  have hda := E0.d
  obtain ⟨v, M, okW, hrow⟩ := hA.ex
  refine b_norm ?_
  refine t_norm ?_
  refine wp_seq ?_
  refine c_region ?_
  refine d_val E0 okW (y_load one_32C rfl (Holds.own 0 rfl rfl)) rfl rfl fun a' E => ?_
  refine d_val E okW (y_assign rfl) rfl rfl fun a' E => ?_
  refine wpList_nil ?_
  refine t_norm ?_
  refine wp_ret ?_
  have ok3 := hokg okW hrow (grownBy_putObj' _ D _) (fun r e => by cases e; exact ⟨hD, _, hDef, rfl⟩) (Y := W.putObj D (.deferred none))
  have hbp : bodyPost Tryz.prog Tryz.f66 (fun e w' => ∃ v M, e = .returned v ∧ Ok u m0 (M :: Tb :: S) w' ∧ ORow 9 1 pS m0 v r M) .ret a' (W.putObj D (.deferred none)) := c_ret2 [.t 4 v] E.d rfl ⟨rv_t E rfl, trivial⟩ ⟨v, M, rfl, ok3.drop, by rw [← hxs]; exact hrow⟩
  have hh := leaveD (F := Fence.wide) (n := 3) E.d hDef hbp
  rw [E.d] at hh
  rw [hda]
  exact hh
 ·rintro D c pre W hD _ hF
  exact hF.elim
set_option maxRecDepth 100000 in
set_option maxHeartbeats 4000000 in
theorem plural_collect_w {u : World} {m0 : Mem} {S : Segs} {w : World} {b : Nat} {v : Value} {l : List Rule} (N : Nat) (hl : (pL 2 pRule) m0 [v] l) {r : List (List UInt8)} (hF : plural_collect N l = some r) (hG : Glob u) (hTb : Tab u) (ok : Ok u m0 ([(b, Obj.cells [v].toArray 22 (0, 0))] :: S) w) :
  Calls Tryz.prog 43 [.func (.func 67) #[] #[.pointer (some ⟨b, 0, none⟩)]].toArray w fun e w' => ∃ m1 c, e = .returned c ∧ m0.le m1 ∧ Ok u m1 ([(b, Obj.cells [v].toArray 22 (0, 0))] :: S) w' ∧ (pL 1 pS) m1 [c] r := by
 have okT : Ok u m0 [[(b, Obj.cells [v].toArray 22 (0, 0))]] w := Ok.init (A := [[(b, Obj.cells [v].toArray 22 (0, 0))]]) ok
 refine enter Tryz.func43 rfl rfl rfl fun a E => sg <| lv E ok (y_assign rfl) fun a E => wn <| sg <| lv E ok (y_move rfl) fun a E => ?_
 refine l_call E go_66C rfl (append_seq_w (NN := 6) (by decide) (fun args w => rfl) (fun p hp => by obtain rfl := List.mem_singleton.1 hp; rfl) (occ_stops hl hF hG hTb okT) ok) rfl rfl ?_
 rintro _ w ⟨c, M, rfl, ok, hrow⟩
 refine ⟨_, rfl, fun a E => ?_⟩
 refine lv E ok (y_assign rfl) fun a E => wn <| wp_ret ?_
 obtain ⟨m1, hle, ok, hfz⟩ := ok.freeze
 exact c_ret2 [.t 2 c] E.d rfl ⟨rv_t E rfl, trivial⟩ ⟨m1, c, rfl, hle, ok, hrow.froz mS hle hfz (by decide)⟩
def plural_Classes_R (u : World) (m0 : Mem) (S : Segs) (r : (List (List UInt8)) × Int) (a : Act) (w : World) : Prop :=
 ∃ m1 v0, m0.le m1 ∧ Ok u m1 S w ∧ a.defers = [] ∧ RVs Tryz.prog a w [.t 2 v0, .t 3 (.int .i64 r.2)] ∧ (pL 1 pS) m1 [v0] r.1 ∧ InR .i64 r.2
set_option maxHeartbeats 4000000 in
set_option maxRecDepth 100000 in
theorem plural_Classes_w {u : World} {m0 : Mem} {S : Segs} {w : World} (N : Nat) (vl_0 : Value) (l_0 : List (Rule)) (hl_0 : (pL 2 pRule) m0 [vl_0] l_0) {r : (List (List UInt8)) × Int} (hF : plural_Classes N l_0 = some r) (hG : Glob u) (hTb : Tab u) (ok : Ok u m0 S w) :
  Calls Tryz.prog 19 [vl_0].toArray w fun e w' => ∃ m1 v0, e = .returned (.tuple [v0, (.int .i64 r.2)].toArray) ∧ m0.le m1 ∧ Ok u m1 S w' ∧ (pL 1 pS) m1 [v0] r.1 ∧ InR .i64 r.2 := by
 have le_m0 := Mem.le.refl m0
 unfold plural_Classes at hF
 have fin : ∀ a w, plural_Classes_R u m0 S r a w → bodyPost Tryz.prog Tryz.f19 (fun e w' => ∃ m1 v0, e = .returned (.tuple [v0, (.int .i64 r.2)].toArray) ∧ m0.le m1 ∧ Ok u m1 S w' ∧ (pL 1 pS) m1 [v0] r.1 ∧ InR .i64 r.2) .ret a w := by
  intro a w h
  obtain ⟨m1, v0, hle, ok, hd, hrv, h0, h1⟩ := h
  exact c_ret2 [.t 2 v0, .t 3 (.int .i64 r.2)] hd rfl hrv ⟨m1, v0, rfl, hle, ok, h0, h1⟩
 refine enter Tryz.func19 rfl rfl rfl fun a E => ?_
 refine wp_seq ?_
 refine c_region ?_
 refine l_val E ok (y_assign rfl) rfl rfl fun a E => ?_
 refine l_val E ok (y_assign rfl) rfl rfl fun a E => ?_
 refine wpList_nil ?_
 refine t_norm ?_
 refine wp_seq ?_
 refine wp_seq ?_
 refine c_region ?_
 refine l_val E ok (y_move rfl) rfl rfl fun a E => ?_
 obtain ⟨r1, e2, hF⟩ := bnd hF
 refine l_call E go_13 rfl (plural_Valid_w N _ l_0 hl_0 e2 hG ok) rfl rfl ?_
 rintro _ w ⟨rfl, ok⟩
 refine ⟨_, rfl, fun a E => ?_⟩
 refine l_val E ok (y_not rfl) rfl rfl fun a E => ?_
 refine wpList_nil ?_
 refine t_norm ?_
 refine c_if E rfl (fun hc3 => ?_) (fun hc3 => ?_)
 ·replace hF := cond_t hc3 hF
  refine wp_seq ?_
  refine c_region ?_
  refine l_val E ok (y_assign rfl) rfl rfl fun a E => ?_
  refine l_val E ok (y_assign rfl) rfl rfl fun a E => ?_
  refine wpList_nil ?_
  refine t_norm ?_
  refine wp_ret ?_
  refine t_ret ?_
  have hret : plural_Classes_R u m0 S ([], 1) a w := ⟨m0, (.slice none 0 0), le_m0, ok, E.d, ⟨rv_t E rfl, rv_t E rfl, trivial⟩, pL_nil, (show InR .i64 (1) by decide)⟩
  obtain rfl := Option.some.inj hF
  exact fin _ _ hret
 replace hF := cond_f hc3 hF
 refine wp_skip ?_
 refine t_norm ?_
 refine wp_seq ?_
 refine wp_seq ?_
 refine c_region ?_
 refine l_val E ok (y_move rfl) rfl rfl fun a E => ?_
 obtain ⟨r4, e5, hF⟩ := bnd hF
 refine l_call E go_36 rfl (plural_check_w N _ l_0 hl_0 e5 hG hTb ok) rfl rfl ?_
 rintro _ w ⟨⟨rfl, ok⟩, r6⟩
 refine ⟨_, rfl, fun a E => ?_⟩
 refine l_val E ok (y_assign rfl) rfl rfl fun a E => ?_
 refine wpList_nil ?_
 refine t_norm ?_
 refine wp_seq ?_
 refine c_region ?_
 refine l_val E ok (y_move rfl) rfl rfl fun a E => ?_
 refine l_val E ok (y_neq rfl rfl) rfl rfl fun a E => ?_
 refine wpList_nil ?_
 refine t_norm ?_
 refine c_if E rfl (fun hc7 => ?_) (fun hc7 => ?_)
 ·replace hF := cond_t hc7 hF
  refine wp_seq ?_
  refine c_region ?_
  refine l_val E ok (y_move rfl) rfl rfl fun a E => ?_
  refine l_val E ok (y_assign rfl) rfl rfl fun a E => ?_
  refine l_val E ok (y_assign rfl) rfl rfl fun a E => ?_
  refine wpList_nil ?_
  refine t_norm ?_
  refine wp_ret ?_
  refine t_ret ?_
  have hret : plural_Classes_R u m0 S ([], r4) a w := ⟨m0, (.slice none 0 0), le_m0, ok, E.d, ⟨rv_t E rfl, rv_t E rfl, trivial⟩, pL_nil, r6⟩
  obtain rfl := Option.some.inj hF
  exact fin _ _ hret
 replace hF := cond_f hc7 hF
 refine wp_skip ?_
 refine t_norm ?_
 refine wp_seq ?_
 refine c_region ?_
 refine l_val E ok (y_move rfl) rfl rfl fun a E => ?_
 refine l_call E go_44 rfl (plural_occurring_w (pL_cells hl_0) ok) rfl rfl ?_
 rintro _ w ⟨b8, rfl, ok⟩
 refine ⟨_, rfl, fun a E => ?_⟩
 obtain ⟨r9, e10, hF⟩ := bnd hF
 refine l_call E go_43 rfl (plural_collect_w N hl_0 e10 hG hTb ok) rfl rfl ?_
 rintro _ w ⟨m11, c12, rfl, hle, ok, h13⟩
 have le_m0 := le_m0.trans hle
 have hl_0 := (mL mRule).up hle hl_0
 refine ⟨_, rfl, fun a E => ?_⟩
 refine l_val E ok (y_assign rfl) rfl rfl fun a E => ?_
 refine l_val E ok (y_assign rfl) rfl rfl fun a E => ?_
 refine wpList_nil ?_
 refine t_norm ?_
 refine wp_ret ?_
 have hret : plural_Classes_R u m0 S (r9, 0) a w := ⟨m11, c12, le_m0, ok.drop, E.d, ⟨rv_t E rfl, rv_t E rfl, trivial⟩, h13, (show InR .i64 (0) by decide)⟩
 obtain rfl := Option.some.inj hF
 exact fin _ _ hret
end Go.Proofs.YtboacfcnmhnbdaaGreatDoor
namespace Go.Proofs.YtboacfcnmhnbdaaGreatDoor
open Go.X
def calquelaw14_PluralOccurs (N : Nat) (l_0 : List (Rule)) (number_1 : List UInt8) : Option Bool :=
 (calquelaw14_awake N ).bind fun r1 =>
 bif (!r1) then
  (calquelaw14_awake N ).bind fun r4 =>
  some r4
 else
  (calqueref14_Few N l_0).bind fun r6 =>
  bif (!r6) then
   (calquelaw14_awake N ).bind fun r9 =>
   some r9
  else
   (calqueref07_Split N number_1).bind fun r11 =>
   (plural_Classes N l_0).bind fun r19 =>
   bif (!r11.2) then
    some true
   else
    bif (r19.2 != 0) then
     some true
    else
     (plural_Class N l_0 number_1).bind fun r27 =>
     (calqueref07_Text N (Number2.mk (!r11.1.Neg) r11.1.Whole r11.1.Frac)).bind fun r31 =>
     (plural_Class N l_0 r31).bind fun r34 =>
     bif (r27.2 == 0) then
      bif (r34.2 == 0) then
       bif (r27.1 == r34.1) then
        (calqueref14_Has N r19.1 r27.1).bind fun r41 =>
        some r41
       else
        some false
      else
       some false
     else
      some false
end Go.Proofs.YtboacfcnmhnbdaaGreatDoor
namespace Go.Proofs.YtboacfcnmhnbdaaGreatDoor
open Go.X
theorem go_10 : goB Tryz.prog 10 = true := by kernel_rfl
theorem go_19 : goB Tryz.prog 19 = true := by kernel_rfl
theorem go_22 : goB Tryz.prog 22 = true := by kernel_rfl
theorem go_23 : goB Tryz.prog 23 = true := by kernel_rfl
theorem go_9 : goB Tryz.prog 9 = true := by kernel_rfl
def calquelaw14_PluralOccurs_R (u : World) (m0 : Mem) (S : Segs) (r : Bool) (a : Act) (w : World) : Prop :=
 Ok u m0 S w ∧ a.defers = [] ∧ RVs Tryz.prog a w [.t 4 (.bool r)]
set_option maxHeartbeats 4000000 in
set_option maxRecDepth 100000 in
theorem calquelaw14_PluralOccurs_w {u : World} {m0 : Mem} {S : Segs} {w : World} (N : Nat) (vl_0 : Value) (l_0 : List (Rule)) (hl_0 : (pL 2 pRule) m0 [vl_0] l_0) (number_1 : List UInt8) (lnumber_1 : number_1.length ≤ LIMS) {r : Bool} (hF : calquelaw14_PluralOccurs N l_0 number_1 = some r) (hG : Glob u) (hTb : Tab u) (ok : Ok u m0 S w) :
  Calls Tryz.prog 6 [vl_0, Value.string (bs number_1)].toArray w fun e w' => (e = .returned (.bool r) ∧ Ok u m0 S w') := by
 have hb0 := ok.base
 have le_m0 := Mem.le.refl m0
 unfold calquelaw14_PluralOccurs at hF
 have fin : ∀ a w, calquelaw14_PluralOccurs_R u m0 S r a w → bodyPost Tryz.prog Tryz.f6 (fun e w' => (e = .returned (.bool r) ∧ Ok u m0 S w')) .ret a w := by
  intro a w h
  obtain ⟨ok, hd, hrv⟩ := h
  exact c_ret2 [.t 4 (.bool r)] hd rfl hrv ⟨rfl, ok⟩
 refine enter Tryz.func6 rfl rfl rfl fun a E => ?_
 refine wp_seq ?_
 refine c_region ?_
 refine l_val E ok (y_assign rfl) rfl rfl fun a E => ?_
 refine wpList_nil ?_
 refine t_norm ?_
 refine wp_seq ?_
 refine wp_seq ?_
 refine c_region ?_
 obtain ⟨r1, e2, hF⟩ := bnd hF
 refine l_call E go_9 rfl (calquelaw14_awake_w N  e2 hG ok) rfl rfl ?_
 rintro _ w ⟨rfl, ok⟩
 refine ⟨_, rfl, fun a E => ?_⟩
 refine l_val E ok (y_not rfl) rfl rfl fun a E => ?_
 refine l_val E ok (y_move rfl) rfl rfl fun a E => ?_
 refine bsplit (!r1) (fun hc3 => ?_) (fun hc3 => ?_)
 ·replace hF := cond_t hc3 hF
  replace E := E.upd 15 hc3 rfl
  refine l_skip E rfl rfl fun a E => ?_
  refine l_skip E rfl rfl fun a E => ?_
  refine l_skip E rfl rfl fun a E => ?_
  refine l_val E ok (y_pickT rfl rfl) rfl rfl fun a E => ?_
  refine wpList_nil ?_
  refine t_norm ?_
  refine c_if E rfl (fun _ => ?_) (fun h => by cases h)
  refine wp_seq ?_
  refine c_region ?_
  obtain ⟨r4, e5, hF⟩ := bnd hF
  refine l_call E go_9 rfl (calquelaw14_awake_w N  e5 hG ok) rfl rfl ?_
  rintro _ w ⟨rfl, ok⟩
  refine ⟨_, rfl, fun a E => ?_⟩
  refine l_val E ok (y_assign rfl) rfl rfl fun a E => ?_
  refine wpList_nil ?_
  refine t_norm ?_
  refine wp_ret ?_
  refine t_ret ?_
  have hret : calquelaw14_PluralOccurs_R u m0 S r4 a w := ⟨ok, E.d, ⟨rv_t E rfl, trivial⟩⟩
  obtain rfl := Option.some.inj hF
  exact fin _ _ hret
 replace hF := cond_f hc3 hF
 replace E := E.upd 15 hc3 rfl
 refine l_val E ok (y_move rfl) rfl rfl fun a E => ?_
 obtain ⟨r6, e7, hF⟩ := bnd hF
 refine l_call E go_10 rfl (calqueref14_Few_w N _ l_0 hl_0 e7 hG ok) rfl rfl ?_
 rintro _ w ⟨rfl, ok⟩
 refine ⟨_, rfl, fun a E => ?_⟩
 refine l_val E ok (y_not rfl) rfl rfl fun a E => ?_
 refine l_val E ok (y_pickF rfl rfl) rfl rfl fun a E => ?_
 refine wpList_nil ?_
 refine t_norm ?_
 refine c_if E rfl (fun hc8 => ?_) (fun hc8 => ?_)
 ·replace hF := cond_t hc8 hF
  refine wp_seq ?_
  refine c_region ?_
  obtain ⟨r9, e10, hF⟩ := bnd hF
  refine l_call E go_9 rfl (calquelaw14_awake_w N  e10 hG ok) rfl rfl ?_
  rintro _ w ⟨rfl, ok⟩
  refine ⟨_, rfl, fun a E => ?_⟩
  refine l_val E ok (y_assign rfl) rfl rfl fun a E => ?_
  refine wpList_nil ?_
  refine t_norm ?_
  refine wp_ret ?_
  refine t_ret ?_
  have hret : calquelaw14_PluralOccurs_R u m0 S r9 a w := ⟨ok, E.d, ⟨rv_t E rfl, trivial⟩⟩
  obtain rfl := Option.some.inj hF
  exact fin _ _ hret
 replace hF := cond_f hc8 hF
 refine wp_skip ?_
 refine t_norm ?_
 refine wp_seq ?_
 refine c_region ?_
 refine l_val E ok (y_move rfl) rfl rfl fun a E => ?_
 obtain ⟨r11, e12, hF⟩ := bnd hF
 refine l_call E go_21 rfl (calqueref07_Split_w N number_1 lnumber_1 e12 hG ok) rfl rfl ?_
 rintro _ w ⟨m13, vs14, rfl, hle, ok, h15⟩
 have le_m0 := le_m0.trans hle
 have hl_0 := (mL mRule).up hle hl_0
 obtain ⟨rfl, l16, l17⟩ := h15
 refine ⟨_, rfl, fun a E => ?_⟩
 refine l_val E ok (y_move rfl) rfl rfl fun a E => ?_
 refine l_val E ok (y_extract rfl rfl) rfl rfl fun a E => ?_
 refine l_val E ok (y_extract rfl rfl) rfl rfl fun a E => ?_
 refine l_alloc E ok zero_36 rfl rfl fun b18 a w E ok => ?_
 refine l_storeB E ok 0 rfl rfl rfl inf_36 rfl rfl ⟨rfl, rfl, rfl, trivial⟩ rfl rfl fun w ok => ?_
 refine l_val E ok (y_assign rfl) rfl rfl fun a E => ?_
 refine wpList_nil ?_
 refine t_norm ?_
 refine wp_seq ?_
 refine c_region ?_
 refine l_val E ok (y_move rfl) rfl rfl fun a E => ?_
 obtain ⟨r19, e20, hF⟩ := bnd hF
 refine l_call E go_19 rfl (plural_Classes_w N _ l_0 hl_0 e20 hG hTb ok) rfl rfl ?_
 rintro _ w ⟨m21, c22, rfl, hle, ok, h23, r24⟩
 have le_m0 := le_m0.trans hle
 have hl_0 := (mL mRule).up hle hl_0
 refine ⟨_, rfl, fun a E => ?_⟩
 refine l_val E ok (y_move rfl) rfl rfl fun a E => ?_
 refine l_val E ok (y_extract rfl rfl) rfl rfl fun a E => ?_
 refine l_val E ok (y_extract rfl rfl) rfl rfl fun a E => ?_
 refine l_val E ok (y_assign rfl) rfl rfl fun a E => ?_
 refine l_val E ok (y_assign rfl) rfl rfl fun a E => ?_
 refine wpList_nil ?_
 refine t_norm ?_
 refine wp_seq ?_
 refine wp_seq ?_
 refine c_region ?_
 refine l_val E ok (y_move rfl) rfl rfl fun a E => ?_
 refine l_val E ok (y_not rfl) rfl rfl fun a E => ?_
 refine l_val E ok (y_move rfl) rfl rfl fun a E => ?_
 refine bsplit (!r11.2) (fun hc25 => ?_) (fun hc25 => ?_)
 ·replace hF := cond_t hc25 hF
  replace E := E.upd 33 hc25 rfl
  refine l_skip E rfl rfl fun a E => ?_
  refine l_skip E rfl rfl fun a E => ?_
  refine l_val E ok (y_pickT rfl rfl) rfl rfl fun a E => ?_
  refine wpList_nil ?_
  refine t_norm ?_
  refine c_if E rfl (fun _ => ?_) (fun h => by cases h)
  refine wp_seq ?_
  refine c_region ?_
  refine l_val E ok (y_assign rfl) rfl rfl fun a E => ?_
  refine wpList_nil ?_
  refine t_norm ?_
  refine wp_ret ?_
  refine t_ret ?_
  have hret : calquelaw14_PluralOccurs_R u m0 S true a w := ⟨(ok.drop).down hb0 le_m0, E.d, ⟨rv_t E rfl, trivial⟩⟩
  obtain rfl := Option.some.inj hF
  exact fin _ _ hret
 replace hF := cond_f hc25 hF
 replace E := E.upd 33 hc25 rfl
 refine l_val E ok (y_move rfl) rfl rfl fun a E => ?_
 refine l_val E ok (y_neq rfl rfl) rfl rfl fun a E => ?_
 refine l_val E ok (y_pickF rfl rfl) rfl rfl fun a E => ?_
 refine wpList_nil ?_
 refine t_norm ?_
 refine c_if E rfl (fun hc26 => ?_) (fun hc26 => ?_)
 ·replace hF := cond_t hc26 hF
  refine wp_seq ?_
  refine c_region ?_
  refine l_val E ok (y_assign rfl) rfl rfl fun a E => ?_
  refine wpList_nil ?_
  refine t_norm ?_
  refine wp_ret ?_
  refine t_ret ?_
  have hret : calquelaw14_PluralOccurs_R u m0 S true a w := ⟨(ok.drop).down hb0 le_m0, E.d, ⟨rv_t E rfl, trivial⟩⟩
  obtain rfl := Option.some.inj hF
  exact fin _ _ hret
 replace hF := cond_f hc26 hF
 refine wp_skip ?_
 refine t_norm ?_
 refine wp_seq ?_
 refine c_region ?_
 refine l_val E ok (y_move rfl) rfl rfl fun a E => ?_
 refine l_val E ok (y_move rfl) rfl rfl fun a E => ?_
 obtain ⟨r27, e28, hF⟩ := bnd hF
 refine l_call E go_11 rfl (plural_Class_w N _ l_0 hl_0 number_1 lnumber_1 e28 hG ok) rfl rfl ?_
 rintro _ w ⟨⟨rfl, ok⟩, l29, r30⟩
 refine ⟨_, rfl, fun a E => ?_⟩
 refine l_val E ok (y_move rfl) rfl rfl fun a E => ?_
 refine l_val E ok (y_extract rfl rfl) rfl rfl fun a E => ?_
 refine l_val E ok (y_extract rfl rfl) rfl rfl fun a E => ?_
 refine l_val E ok (y_assign rfl) rfl rfl fun a E => ?_
 refine l_val E ok (y_assign rfl) rfl rfl fun a E => ?_
 refine wpList_nil ?_
 refine t_norm ?_
 refine wp_seq ?_
 refine c_region ?_
 refine l_val E ok (y_fieldAddr fo_36_0 rfl) rfl rfl fun a E => ?_
 refine l_val E ok (y_load one_4 rfl (Holds.own 0 rfl rfl)) rfl rfl fun a E => ?_
 refine l_val E ok (y_not rfl) rfl rfl fun a E => ?_
 refine l_val E ok (y_fieldAddr fo_36_0 rfl) rfl rfl fun a E => ?_
 refine l_storeB E ok 0 rfl rfl rfl inf_4 rfl rfl ⟨rfl, trivial⟩ rfl rfl fun w ok => ?_
 refine wpList_nil ?_
 refine t_norm ?_
 refine wp_seq ?_
 refine c_region ?_
 refine l_val E ok (y_move rfl) rfl rfl fun a E => ?_
 refine l_val E ok (y_loadAgg (cs := [(Value.bool (!r11.1.Neg)), (Value.string (bs r11.1.Whole)), (Value.string (bs r11.1.Frac))]) agg_36 rfl rfl (Holds.own 0 rfl rfl)) rfl rfl fun a E => ?_
 obtain ⟨r31, e32, hF⟩ := bnd hF
 refine l_call E go_22 rfl (calqueref07_Text_w N _ (Number2.mk (!r11.1.Neg) r11.1.Whole r11.1.Frac) ⟨rfl, l16, l17⟩ e32 hG ok) rfl rfl ?_
 rintro _ w ⟨⟨rfl, ok⟩, l33⟩
 refine ⟨_, rfl, fun a E => ?_⟩
 obtain ⟨r34, e35, hF⟩ := bnd hF
 refine l_call E go_11 rfl (plural_Class_w N _ l_0 hl_0 r31 l33 e35 hG ok) rfl rfl ?_
 rintro _ w ⟨⟨rfl, ok⟩, l36, r37⟩
 refine ⟨_, rfl, fun a E => ?_⟩
 refine l_val E ok (y_move rfl) rfl rfl fun a E => ?_
 refine l_val E ok (y_extract rfl rfl) rfl rfl fun a E => ?_
 refine l_val E ok (y_extract rfl rfl) rfl rfl fun a E => ?_
 refine l_val E ok (y_assign rfl) rfl rfl fun a E => ?_
 refine l_val E ok (y_assign rfl) rfl rfl fun a E => ?_
 refine wpList_nil ?_
 refine t_norm ?_
 refine wp_seq ?_
 refine c_region ?_
 refine l_val E ok (y_move rfl) rfl rfl fun a E => ?_
 refine l_val E ok (y_eql rfl rfl) rfl rfl fun a E => ?_
 refine l_val E ok (y_move rfl) rfl rfl fun a E => ?_
 refine bsplit (r27.2 == 0) (fun hc38 => ?_) (fun hc38 => ?_)
 rotate_left
 ·replace hF := cond_f hc38 hF
  replace E := E.upd 56 hc38 rfl
  refine l_skip E rfl rfl fun a E => ?_
  refine l_skip E rfl rfl fun a E => ?_
  refine l_val E ok (y_pickF rfl rfl) rfl rfl fun a E => ?_
  refine l_val E ok (y_move rfl) rfl rfl fun a E => ?_
  refine l_skip E rfl rfl fun a E => ?_
  refine l_skip E rfl rfl fun a E => ?_
  refine l_skip E rfl rfl fun a E => ?_
  refine l_val E ok (y_pickF rfl rfl) rfl rfl fun a E => ?_
  refine l_val E ok (y_move rfl) rfl rfl fun a E => ?_
  refine l_skip E rfl rfl fun a E => ?_
  refine l_skip E rfl rfl fun a E => ?_
  refine l_skip E rfl rfl fun a E => ?_
  refine l_val E ok (y_pickF rfl rfl) rfl rfl fun a E => ?_
  refine l_val E ok (y_assign rfl) rfl rfl fun a E => ?_
  refine wpList_nil ?_
  refine t_norm ?_
  refine wp_ret ?_
  have hret : calquelaw14_PluralOccurs_R u m0 S false a w := ⟨(ok.drop).down hb0 le_m0, E.d, ⟨rv_t E rfl, trivial⟩⟩
  obtain rfl := Option.some.inj hF
  exact fin _ _ hret
 replace hF := cond_t hc38 hF
 replace E := E.upd 56 hc38 rfl
 refine l_val E ok (y_move rfl) rfl rfl fun a E => ?_
 refine l_val E ok (y_eql rfl rfl) rfl rfl fun a E => ?_
 refine l_val E ok (y_pickT rfl rfl) rfl rfl fun a E => ?_
 refine l_val E ok (y_move rfl) rfl rfl fun a E => ?_
 refine bsplit (r34.2 == 0) (fun hc39 => ?_) (fun hc39 => ?_)
 rotate_left
 ·replace hF := cond_f hc39 hF
  replace E := E.upd 60 hc39 rfl
  refine l_skip E rfl rfl fun a E => ?_
  refine l_skip E rfl rfl fun a E => ?_
  refine l_skip E rfl rfl fun a E => ?_
  refine l_val E ok (y_pickF rfl rfl) rfl rfl fun a E => ?_
  refine l_val E ok (y_move rfl) rfl rfl fun a E => ?_
  refine l_skip E rfl rfl fun a E => ?_
  refine l_skip E rfl rfl fun a E => ?_
  refine l_skip E rfl rfl fun a E => ?_
  refine l_val E ok (y_pickF rfl rfl) rfl rfl fun a E => ?_
  refine l_val E ok (y_assign rfl) rfl rfl fun a E => ?_
  refine wpList_nil ?_
  refine t_norm ?_
  refine wp_ret ?_
  have hret : calquelaw14_PluralOccurs_R u m0 S false a w := ⟨(ok.drop).down hb0 le_m0, E.d, ⟨rv_t E rfl, trivial⟩⟩
  obtain rfl := Option.some.inj hF
  exact fin _ _ hret
 replace hF := cond_t hc39 hF
 replace E := E.upd 60 hc39 rfl
 refine l_val E ok (y_move rfl) rfl rfl fun a E => ?_
 refine l_val E ok (y_move rfl) rfl rfl fun a E => ?_
 refine l_val E ok (y_seql rfl rfl) rfl rfl fun a E => ?_
 refine l_val E ok (y_pickT rfl rfl) rfl rfl fun a E => ?_
 refine l_val E ok (y_move rfl) rfl rfl fun a E => ?_
 refine bsplit (r27.1 == r34.1) (fun hc40 => ?_) (fun hc40 => ?_)
 rotate_left
 ·replace hF := cond_f hc40 hF
  replace E := E.upd 65 hc40 rfl
  refine l_skip E rfl rfl fun a E => ?_
  refine l_skip E rfl rfl fun a E => ?_
  refine l_skip E rfl rfl fun a E => ?_
  refine l_val E ok (y_pickF rfl rfl) rfl rfl fun a E => ?_
  refine l_val E ok (y_assign rfl) rfl rfl fun a E => ?_
  refine wpList_nil ?_
  refine t_norm ?_
  refine wp_ret ?_
  have hret : calquelaw14_PluralOccurs_R u m0 S false a w := ⟨(ok.drop).down hb0 le_m0, E.d, ⟨rv_t E rfl, trivial⟩⟩
  obtain rfl := Option.some.inj hF
  exact fin _ _ hret
 replace hF := cond_t hc40 hF
 replace E := E.upd 65 hc40 rfl
 refine l_val E ok (y_move rfl) rfl rfl fun a E => ?_
 refine l_val E ok (y_move rfl) rfl rfl fun a E => ?_
 obtain ⟨r41, e42, hF⟩ := bnd hF
 refine l_call E go_23 rfl (calqueref14_Has_w N _ r19.1 h23 r27.1 l29 e42 hG ok) rfl rfl ?_
 rintro _ w ⟨rfl, ok⟩
 refine ⟨_, rfl, fun a E => ?_⟩
 refine l_val E ok (y_pickT rfl rfl) rfl rfl fun a E => ?_
 refine l_val E ok (y_assign rfl) rfl rfl fun a E => ?_
 refine wpList_nil ?_
 refine t_norm ?_
 refine wp_ret ?_
 have hret : calquelaw14_PluralOccurs_R u m0 S r41 a w := ⟨(ok.drop).down hb0 le_m0, E.d, ⟨rv_t E rfl, trivial⟩⟩
 obtain rfl := Option.some.inj hF
 exact fin _ _ hret
end Go.Proofs.YtboacfcnmhnbdaaGreatDoor
namespace Go.X
variable {H : Type} {enc : TypeId × Value → H}
end Go.X
namespace Go.X
open Go.ChangeShapes Go.RowKit
def OpnS {α : Type} (P : Program) (t : TypeId) (R : Rp α) (Q : α → Prop) : Prop :=
 ∀ {H : Type} {enc : TypeId × Value → H} {W : World} {base : Nat} {spare : Nat → Bool} {held : Bool} {fuel : Nat} {cs : List Value} {x : DataW H × List MemPlace},
  DataW.trod enc P W base spare held fuel t cs = some x → (∀ n ∈ x.1.weights P t, n ≤ reachBytes) → ∃ a : α, R (hm W) cs a ∧ Q a
section
variable {P : Program} {t : TypeId}
theorem s_int {k : IntKind} (ht : P.underlying t = some (.int k)) : OpnS P t (pI k) (InR k) := fun h _ => by
 obtain ⟨a, ha⟩ := o_int ht h
 exact ⟨a, ha, ha.2⟩
theorem s_bool (ht : P.underlying t = some .bool) : OpnS P t pB (fun _ => True) := fun h _ => by
 obtain ⟨a, ha⟩ := o_bool ht h
 exact ⟨a, ha, trivial⟩
theorem s_str (ht : P.underlying t = some .string) : OpnS P t pS (fun s => s.length ≤ reachBytes) := fun h hz => by
 obtain ⟨s, rfl, rfl, hs⟩ := DataW.trod_string ht h
 refine ⟨s.data.toList, ⟨rfl, hs⟩, hz _ ?_⟩
 simp [DataW.weights]
theorem weightsAll_mem {H : Type} {e : TypeId} : ∀ {l : List (DataW H)} {d : DataW H}, d ∈ l → ∀ n ∈ d.weights P e, n ∈ DataW.weightsAll P e l
 | d0 :: l, d, h, n, hn => by
  simp only [DataW.weightsAll, List.mem_append]
  rcases List.mem_cons.1 h with rfl | h
  ·exact .inl hn
  ·exact .inr (weightsAll_mem h n hn)
 | [], _, h, _, _ => by cases h
theorem s_slice {α : Type} {e : TypeId} {n : Nat} {R : Rp α} {Q : α → Prop} (ht : P.underlying t = some (.slice e)) (hc : P.cellsOf e = n) (hn : 0 < n) (hb : 0 < P.bytesOf e) (he : OpnS P e R Q) : OpnS P t (pL n R) (fun xs => xs.length ≤ reachBytes ∧ ∀ y ∈ xs, Q y) := fun {H enc W base spare held fuel cs x} h hz => by
 rcases Go.Deep.open_slice ht h with ⟨rfl, _⟩ | ⟨a, len, cap, m, fu, D, Pl, rfl, _, hl, hm', hm2, rfl, hel⟩
 ·exact ⟨[], ⟨none, 0, rfl, Nat.le_refl _, Nat.zero_le _, Nat.zero_le _, fun h => absurd rfl h⟩, Nat.zero_le _, fun _ h => by cases h⟩
 ·rw [hc] at hel
  have hlm : len ≤ m := by rw [hm2]; split <;> omega
  have hlen : len ≤ reachBytes := by
   have h1 := hz (((List.range len).map D).length + ((List.range (m - len)).map fun j => D (len + j)).length |> (· * P.bytesOf e)) (by simp [DataW.weights, ht])
   simp only [List.length_map, List.length_range] at h1
   have h2 : len * 1 ≤ (len + (m - len)) * P.bytesOf e := Nat.mul_le_mul (by omega) hb
   omega
  have key : ∀ i, i < len → ∃ y : α, (∃ es : List Value, es.length = n ∧ (∀ j v, es[j]? = some v → W.cell? (a.add (i * n + j)) = some v) ∧ R (hm W) es y) ∧ Q y := by
   intro i hi
   obtain ⟨cs', h1, h2⟩ := hel i (by omega)
   obtain ⟨y, hy, hq⟩ := he h2 (fun k hk => hz k (by
    simp only [DataW.weights, ht, List.mem_cons, List.mem_append]
    exact .inr (.inl (weightsAll_mem (List.mem_map.2 ⟨i, List.mem_range.2 hi, rfl⟩) k hk))))
   obtain ⟨_, hlen, hcell⟩ := World.cells?_some h1
   refine ⟨y, ⟨cs', hlen, fun j v hj => ?_, hy⟩, hq⟩
   have hjn : j < n := by rw [← hlen]; exact (List.getElem?_eq_some_iff.1 hj).1
   have := hcell j hjn
   rw [hj] at this
   rw [add_add]
   exact this
  have pick : ∃ f : Fin len → α, ∀ i : Fin len, (∃ es : List Value, es.length = n ∧ (∀ j v, es[j]? = some v → W.cell? (a.add (i.1 * n + j)) = some v) ∧ R (hm W) es (f i)) ∧ Q (f i) :=
   ⟨fun i => (key i.1 i.2).choose, fun i => (key i.1 i.2).choose_spec⟩
  obtain ⟨f, hf⟩ := pick
  refine ⟨List.ofFn f, ⟨some a, cap, by rw [List.length_ofFn], by rw [List.length_ofFn]; exact hl, hm', ?_, fun h0 => ?_⟩, by rw [List.length_ofFn]; exact hlen, fun y hy => ?_⟩
  ·rw [List.length_ofFn]; unfold maxLen at hm'; unfold LIMS; omega
  ·rw [List.length_ofFn] at h0
   obtain ⟨b, off, spot⟩ := a
   have hs : spot = none := by
    obtain ⟨⟨es, e1, e2, _⟩, _⟩ := hf ⟨0, by omega⟩
    have hv : es[0]? = some (es[0]'(by omega)) := by simp
    have := e2 0 _ hv
    simpa [Addr.add] using World.cell?_spot this
   subst hs
   refine ⟨b, off, rfl, fun i y hy => ?_⟩
   obtain ⟨hi, rfl⟩ := List.getElem?_eq_some_iff.1 hy
   have hi' : i < len := by simpa using hi
   obtain ⟨⟨es, e1, e2, e3⟩, _⟩ := hf ⟨i, hi'⟩
   refine ⟨es, e1, fun j v hj => ?_, by simpa using e3⟩
   have := e2 j v hj
   refine hm_cell ?_
   rw [add_none] at this
   rw [Nat.add_assoc]
   exact this
  ·obtain ⟨i, rfl⟩ := List.mem_ofFn.1 hy
   exact (hf i).2
theorem s_struct {fs : Array Field} (ht : P.underlying t = some (.struct fs)) {H : Type} {enc : TypeId × Value → H} {W : World} {base : Nat} {spare : Nat → Bool} {held : Bool} {fuel : Nat} {cs : List Value} {x : DataW H × List MemPlace}
  (h : DataW.trod enc P W base spare held fuel t cs = some x) (hz : ∀ n ∈ x.1.weights P t, n ≤ reachBytes) :
  cs.length = P.cellsOf t ∧ ∀ {α : Type} {R : Rp α} {Q : α → Prop} (i : Nat) (f : Field) (n : Nat), fs[i]? = some f → P.cellsOf f.type = n → OpnS P f.type R Q → ∃ a, R (hm W) ((cs.drop f.offset).take n) a ∧ Q a := by
 obtain ⟨xs, n, _, hx, hl, hlen, hf⟩ := DataW.trod_struct ht h
 refine ⟨hl, fun {α R Q} i f n hi hn ho => ?_⟩
 have hi' : i < xs.length := by rw [hlen]; exact (Array.getElem?_eq_some_iff.1 hi).1
 have := hf i f hi
 rw [List.getElem?_eq_getElem hi', hn] at this
 refine ho this fun k hk => hz k ?_
 subst hx
 simp only [DataW.weights, ht]
 refine DataW.weights_mem_each (j := i) (t := f.type) (d := xs[i].1) ?_ ?_ k hk
 ·simp [hi]
 ·simp [hi']
end
end Go.X
namespace Go.X
open Go.ChangeShapes Go.RowKit
section
variable {H : Type} {enc : TypeId × Value → H}
theorem returns_and_sizedX {a : Assume} {C : Checked} {os : Os} {f : FuncId} {fn : Func} {s : ChangeSpec} {conds : List PathCond} {apart fresh handsOn again : Bool} {X : World → Array Value → Prop}
  (hX : ∀ (w w' : World) (args : Array Value), w.heap = w'.heap → X w args → X w' args)
  (own : ownKnob C.prog.godebug = none) (started : os.Started) (noInit : C.prog.inits.idxOf? f = none) (hfn : C.prog.funcs[f]? = some fn)
  (witness : ∃ (w : World) (tape : Tape) (i : Input), w.os = os ∧ (w.forCall tape i).Shaped C.prog ∧ i.vars = [] ∧ Input.okWide C.prog (w.forCall tape i) .any w.heap.size f i ∧
   ((s.pre enc C.prog fn conds apart (w.forCall tape i).memory i.args ∧ X (w.forCall tape i).memory i.args) ∧ sizedMet enc C.prog fn (OpenSpec.ofChange s) apart (w.forCall tape i).memory i.args) ∧ a.holds C.prog (lone (Frame.enter C.prog f i.args .normal) [] (w.forCall tape i)))
  (contract : ∀ (W : World) (base : Nat) (args : Array Value) (ds gs : List (DataW H)) (before : List MemPlace),
   (∀ (j : Nat) t v, fn.params[j]? = some t → args[j]? = some v → Value.okWide C.prog W .any base t v) →
   DataW.Whole enc C.prog fn.params.toList s.vars apart W args.toList ds gs before → W.ShapedOpen C.prog →
   X W args → (DataW.weightsEach C.prog (fn.params.toList ++ s.plain.varTypes C.prog) (ds ++ gs)).all (· ≤ reachBytes) = true →
   Calls C.prog f args W fun e W' => ∃ v, e = .returned v ∧ s.post enc C.prog fn apart fresh handsOn again W args v W') :
  ReturnsInHanded a C os f .any (fun w args => (s.pre enc C.prog fn conds apart w args ∧ X w args) ∧ sizedMet enc C.prog fn (OpenSpec.ofChange s) apart w args) (s.post enc C.prog fn apart fresh handsOn again) := by
 refine returnsInHanded_of_calls own started noInit witness ?_
 intro w tape i _ hsh _ hok hpre _
 obtain ⟨_, _, _, fn', hfn', _, _, _, _, hval⟩ := hok
 have e : fn' = fn := Option.some.inj (hfn'.symm.trans hfn)
 subst e
 obtain ⟨⟨⟨ds, gs, before, hw, _⟩, hx⟩, hz⟩ := hpre
 have hw' := DataW.Whole.of_heap (w' := w.forCall tape i) (by rfl) hw
 refine (contract (w.forCall tape i) w.heap.size i.args ds gs before hval hw' hsh (hX _ _ _ (by rfl) hx) (hz.weights hw)).mono fun e W' ⟨v, he, hp⟩ => ?_
 subst he
 exact ChangeSpec.post_blind hp
end
end Go.X
namespace Go.X
open Go.ChangeShapes Go.RowKit
end Go.X
namespace Go.Proofs.YtboacfcnmhnbdaaGreatDoor
open Go.ChangeShapes Go.WideShapes Go.ChangeAt Go.RowKit Go.X
theorem own : ownKnob Tryz.prog.godebug = none := by kernel_rfl
theorem laidOut : laidOutB Tryz.prog = true := by kernel_rfl
theorem shut_true {H : Type} {enc : TypeId × Value → H} {W : World} {base : Nat} {sp : Nat → Bool} {held : Bool} (b : Bool) : DataW.Trod enc Tryz.prog W base sp held 4 (.bool b) (.lit (.bool b)) [] :=
 ⟨1, by simp [DataW.trod, Value.cells, Tryz.underlying4]⟩
theorem glob_of {W : World} (h : W.ShapedOpen Tryz.prog) : Glob W := cell_of_shapedOpen_int (g := 0) (t := 3) (zero := #[.int .i64 0]) h (of_decide_eq_true (by kernel_rfl)) (by kernel_rfl) (by kernel_rfl) (by kernel_rfl) (by kernel_rfl) Tryz.underlying3
theorem ce3 : Tryz.prog.cellsOf 3 = 1 := by kernel_rfl
theorem ce4 : Tryz.prog.cellsOf 4 = 1 := by kernel_rfl
theorem ce9 : Tryz.prog.cellsOf 9 = 1 := by kernel_rfl
theorem ce42 : Tryz.prog.cellsOf 42 = 1 := by kernel_rfl
theorem ce44 : Tryz.prog.cellsOf 44 = 2 := by kernel_rfl
theorem ce49 : Tryz.prog.cellsOf 49 = 2 := by kernel_rfl
theorem ce50 : Tryz.prog.cellsOf 50 = 1 := by kernel_rfl
theorem ce52 : Tryz.prog.cellsOf 52 = 4 := by kernel_rfl
theorem ce53 : Tryz.prog.cellsOf 53 = 1 := by kernel_rfl
theorem o_49 : OpnS Tryz.prog 49 pSpan (fun x => (InR .i64 x.From ∧ InR .i64 x.To)) := fun h hz => by
 obtain ⟨hl, hf⟩ := s_struct Tryz.underlying49 h hz
 obtain ⟨c0, c1, rfl⟩ := len2 (hl.trans ce49)
 obtain ⟨a0, h0, q0⟩ := hf 0 _ 1 rfl ce3 (s_int Tryz.underlying3)
 obtain ⟨a1, h1, q1⟩ := hf 1 _ 1 rfl ce3 (s_int Tryz.underlying3)
 have h0 : (pI .i64) _ [c0] a0 := h0
 obtain ⟨rfl, g0⟩ := pI_inv h0
 have h1 : (pI .i64) _ [c1] a1 := h1
 obtain ⟨rfl, g1⟩ := pI_inv h1
 exact ⟨⟨a0, a1⟩, ⟨rfl, g0, g1⟩, ⟨q0, q1⟩⟩
theorem o_52 : OpnS Tryz.prog 52 pRelation (fun x => (InR .i64 x.Operand ∧ InR .i64 x.Mod ∧ (x.Spans.length ≤ reachBytes ∧ ∀ y12 ∈ x.Spans, (InR .i64 y12.From ∧ InR .i64 y12.To)))) := fun h hz => by
 obtain ⟨hl, hf⟩ := s_struct Tryz.underlying52 h hz
 obtain ⟨c0, c1, c2, c3, rfl⟩ := len4 (hl.trans ce52)
 obtain ⟨a0, h0, q0⟩ := hf 0 _ 1 rfl ce3 (s_int Tryz.underlying3)
 obtain ⟨a1, h1, q1⟩ := hf 1 _ 1 rfl ce3 (s_int Tryz.underlying3)
 obtain ⟨a2, h2, q2⟩ := hf 2 _ 1 rfl ce4 (s_bool Tryz.underlying4)
 obtain ⟨a3, h3, q3⟩ := hf 3 _ 1 rfl ce50 (s_slice Tryz.underlying50 ce49 (Nat.succ_pos _) (of_decide_eq_true (by kernel_rfl)) o_49)
 have h0 : (pI .i64) _ [c0] a0 := h0
 obtain ⟨rfl, g0⟩ := pI_inv h0
 have h1 : (pI .i64) _ [c1] a1 := h1
 obtain ⟨rfl, g1⟩ := pI_inv h1
 have h2 : pB _ [c2] a2 := h2
 obtain rfl := pB_inv h2
 have h3 : (pL 2 pSpan) _ [c3] a3 := h3
 exact ⟨⟨a0, a1, a2, a3⟩, ⟨c3, rfl, g0, g1, h3⟩, ⟨q0, q1, q3⟩⟩
theorem o_44 : OpnS Tryz.prog 44 pRule (fun x => (x.Class.length ≤ reachBytes ∧ (x.Cond.length ≤ reachBytes ∧ ∀ y9 ∈ x.Cond, (y9.length ≤ reachBytes ∧ ∀ y10 ∈ y9, (InR .i64 y10.Operand ∧ InR .i64 y10.Mod ∧ (y10.Spans.length ≤ reachBytes ∧ ∀ y11 ∈ y10.Spans, (InR .i64 y11.From ∧ InR .i64 y11.To))))))) := fun h hz => by
 obtain ⟨hl, hf⟩ := s_struct Tryz.underlying44 h hz
 obtain ⟨c0, c1, rfl⟩ := len2 (hl.trans ce44)
 obtain ⟨a0, h0, q0⟩ := hf 0 _ 1 rfl ce9 (s_str Tryz.underlying9)
 obtain ⟨a1, h1, q1⟩ := hf 1 _ 1 rfl ce42 (s_slice Tryz.underlying42 ce53 (Nat.succ_pos _) (of_decide_eq_true (by kernel_rfl)) (s_slice Tryz.underlying53 ce52 (Nat.succ_pos _) (of_decide_eq_true (by kernel_rfl)) o_52))
 have h0 : pS _ [c0] a0 := h0
 obtain ⟨rfl, g0⟩ := pS_inv h0
 have h1 : (pL 1 (pL 4 pRelation)) _ [c1] a1 := h1
 exact ⟨⟨a0, a1⟩, ⟨c1, rfl, g0, h1⟩, ⟨q0, q1⟩⟩
theorem tab_pluralOccurs {W : World} (h : laidMetH Tryz.prog Rows.pluralOccursRow.laid W) : Tab W := by
 rw [MakeChecks.laidMetH_plain _ _ _ (by kernel_rfl)] at h
 exact Lib.tabIs_of_head (g := 5) (t := 209) (e := 159) (by kernel_rfl) (by kernel_rfl) Tryz.underlying209 (by kernel_rfl) (by kernel_rfl) (by kernel_rfl) (show laidMet Tryz.prog (("internal/strconv.uint64pow10", Lib.tabData .u64 Lib.pow10Tab) :: _) W from laidMet.tail (x := _) (laidMet.tail (x := _) h))
set_option maxRecDepth 100000 in
theorem pluralOccurs_lifted (hp : ∀ x0 x1, (x0.length ≤ reachBytes ∧ ∀ y5 ∈ x0, (y5.Class.length ≤ reachBytes ∧ (y5.Cond.length ≤ reachBytes ∧ ∀ y6 ∈ y5.Cond, (y6.length ≤ reachBytes ∧ ∀ y7 ∈ y6, (InR .i64 y7.Operand ∧ InR .i64 y7.Mod ∧ (y7.Spans.length ≤ reachBytes ∧ ∀ y8 ∈ y7.Spans, (InR .i64 y8.From ∧ InR .i64 y8.To))))))) → (x1.length ≤ reachBytes) → ∃ N, calquelaw14_PluralOccurs N x0 x1 = some true) (os : Os) (started : os.Started) (H : Type) (enc : TypeId × Value → H) :
  ReturnsInHanded {} Tryz.checked os 6 .any (fun w args => (Rows.pluralOccursSpec.pre enc Tryz.prog Tryz.f6 [] false w args ∧ laidMetH Tryz.prog Rows.pluralOccursRow.laid w) ∧ sizedMet enc Tryz.prog Tryz.f6 (OpenSpec.ofChange Rows.pluralOccursSpec) false w args)
   (Rows.pluralOccursSpec.post enc Tryz.prog Tryz.f6 false true false false) := by
 refine returns_and_sizedX (C := Tryz.checked) (X := fun w _ => laidMetH Tryz.prog Rows.pluralOccursRow.laid w) (fun _ _ _ hh h => laidMetH.of_heap hh h) own started (by kernel_rfl) Tryz.func6
  (ChangeSpec.witness_shaped (enc := enc) (C := Tryz.checked) (os := os) (X := fun w _ => laidMetH Tryz.prog Rows.pluralOccursRow.laid w) false (World.laidAll Tryz.prog os Rows.pluralOccursRow.laid) #[.slice none 0 0, .string (bs [])] 8 (World.laidAll_os _ _ _)
   (World.shaped_of_ZipB (by kernel_rfl) (by kernel_rfl)) (by kernel_rfl) (by kernel_rfl) (by kernel_rfl)
   (by rw [MakeChecks.laidMetH_plain _ _ _ (by kernel_rfl)]; exact laidMet_laidAll _ (by kernel_rfl) (by kernel_rfl))) ?_
 intro W base args ds gs before hval0 hW hsh hX hz
 have hval : ∀ (j : Nat) t v, Tryz.f6.params[j]? = some t → args[j]? = some v → Value.okWide Tryz.prog W .any base t v := hval0
 have hW' := hW
 obtain ⟨p, q, hA0, hV, rfl, _, _⟩ := hW
 have hA : DataW.TrodAll enc Tryz.prog W 0 (fun _ => true) true Tryz.f6.params.toList args.toList ds p := hA0
 rw [Tryz.params6] at hA hval
 obtain ⟨v0, v1, d0, d1, p0, p1, rfl, rfl, rfl, k0, k1⟩ := trodAll_two hA
 obtain ⟨rfl, rfl⟩ := trodVars_none hV
 obtain ⟨fu0, hf0⟩ := id k0
 have hz0 : ∀ n ∈ d0.weights Tryz.prog 22, n ≤ reachBytes := fun n hn => by
  have := List.all_eq_true.1 hz n (DataW.weights_mem_each (j := 0) (t := 22) (d := d0) (by rw [Tryz.params6]; rfl) rfl n hn)
  simpa using this
 obtain ⟨s0, u0, w0, rfl⟩ := okWide_slice Tryz.underlying22 (hval 0 22 v0 rfl rfl)
 obtain ⟨a0, r0, q0⟩ := (s_slice Tryz.underlying22 ce44 (Nat.succ_pos _) (of_decide_eq_true (by kernel_rfl)) o_44) hf0 hz0
 obtain ⟨fu1, hf1⟩ := id k1
 have hz1 : ∀ n ∈ d1.weights Tryz.prog 9, n ≤ reachBytes := fun n hn => by
  have := List.all_eq_true.1 hz n (DataW.weights_mem_each (j := 1) (t := 9) (d := d1) (by rw [Tryz.params6]; rfl) rfl n hn)
  simpa using this
 obtain ⟨s1, rfl⟩ := okWide_string Tryz.underlying9 (hval 1 9 v1 rfl rfl)
 obtain ⟨a1, r1, q1⟩ := (s_str Tryz.underlying9) hf1 hz1
 obtain ⟨e1, l1⟩ := pS_inv (show pS (hm W) [.string s1] a1 from r1)
 clear hA0 hval0
 have hlt : ∀ x ∈ p0 ++ p1, x.block < W.heap.size := fun x hx => by
  refine hW'.lt x ?_
  simpa using hx
 have hlt0 : ∀ x ∈ p0, x.block < W.heap.size := fun x hx => hlt x (by simp [hx])
 have hlt1 : ∀ x ∈ p1, x.block < W.heap.size := fun x hx => hlt x (by simp [hx])
 obtain ⟨N, hN⟩ := hp a0 a1 q0 q1
 have hw := calquelaw14_PluralOccurs_w N _ a0 r0 a1 l1 hN (glob_of hsh) (tab_pluralOccurs hX) (Ok.start W)
 rw [← e1] at hw
 refine hw.mono fun e W' ⟨he, ok⟩ => ?_
 subst he
 have hn := ok.below
 have t0 := Below.trod laidOut (by kernel_rfl) (of_decide_eq_true (by kernel_rfl)) k0 hn hlt0
 have t1 := Below.trod laidOut (by kernel_rfl) (of_decide_eq_true (by kernel_rfl)) k1 hn hlt1
 refine ⟨_, rfl, _, _, _, [], p0 ++ p1, [], hW', ?_, ?_, rfl, hn.frame _, fun h => by cases h⟩
 ·exact trodAll_mk1 (shut_true true)
 ·exact trodAll_mk2 t0 t1
theorem pluralOccurs_holds (hp : ∀ x0 x1, (x0.length ≤ reachBytes ∧ ∀ y5 ∈ x0, (y5.Class.length ≤ reachBytes ∧ (y5.Cond.length ≤ reachBytes ∧ ∀ y6 ∈ y5.Cond, (y6.length ≤ reachBytes ∧ ∀ y7 ∈ y6, (InR .i64 y7.Operand ∧ InR .i64 y7.Mod ∧ (y7.Spans.length ≤ reachBytes ∧ ∀ y8 ∈ y7.Spans, (InR .i64 y8.From ∧ InR .i64 y8.To))))))) → (x1.length ≤ reachBytes) → ∃ N, calquelaw14_PluralOccurs N x0 x1 = some true) : Rows.PluralOccursSaid :=
 OpenClaim.holds_of_wide 6 Tryz.f6 rfl rfl rfl rfl rfl rfl rfl ⟨rfl, rfl, rfl, rfl, rfl⟩ rfl rfl rfl rfl rfl (by kernel_rfl) Tryz.func6 (by kernel_rfl)
  (of_decide_eq_true (by kernel_rfl)) (by unfold Func.isWrapper; rw [if_neg (of_decide_eq_false (by kernel_rfl))]; exact ⟨rfl, rfl⟩)
  (fun os started H enc _ => pluralOccurs_lifted hp os started H enc)
set_option maxRecDepth 100000 in
theorem pluralOccurs_card (hp : ∀ x0 x1, (x0.length ≤ reachBytes ∧ ∀ y5 ∈ x0, (y5.Class.length ≤ reachBytes ∧ (y5.Cond.length ≤ reachBytes ∧ ∀ y6 ∈ y5.Cond, (y6.length ≤ reachBytes ∧ ∀ y7 ∈ y6, (InR .i64 y7.Operand ∧ InR .i64 y7.Mod ∧ (y7.Spans.length ≤ reachBytes ∧ ∀ y8 ∈ y7.Spans, (InR .i64 y8.From ∧ InR .i64 y8.To))))))) → (x1.length ≤ reachBytes) → ∃ N, calquelaw14_PluralOccurs N x0 x1 = some true) : Rows.PluralOccursCardSaid :=
 Claim7.holds_tied_plain_at .later [] [.data, .data, .data, .data, .sentinel, .sentinel, .pinned] true (true, "f3dc7e7594170dd07d8e33fa1e30112068d41a92c841e72d5f6ae9054a08b96e") true (pluralOccurs_holds hp) (fun _ h => by cases h) (by kernel_rfl) (fun _ h => by cases h) pluralOccurs_row_tie rfl ⟨rfl, rfl⟩ (by kernel_rfl) rfl
  (fun f fn hf hfn => by
   obtain rfl : f = 6 := Option.some.inj ((show Tryz.prog.funcNamed "calque/calquelaw14.PluralOccurs" = some 6 by kernel_rfl).symm.trans hf) |>.symm
   obtain rfl : fn = Tryz.f6 := (Option.some.inj (Tryz.func6.symm.trans hfn)).symm
   exact ⟨by kernel_rfl, fun j t ht => by
    rw [Tryz.params6] at ht
    have hm : t ∈ [22, 9] := by simpa using Array.mem_of_getElem? ht
    have hall : ([22, 9].all fun u => !Tryz.prog.wantsStandIn u) = true := by kernel_rfl
    exact (show Tryz.prog.wantsStandIn t = false by simpa using List.all_eq_true.1 hall t hm)⟩)
  (by kernel_rfl)
end Go.Proofs.YtboacfcnmhnbdaaGreatDoor
namespace Go.X
theorem iter_inr {σ β : Type} {body : σ → Option (σ ⊕ β)} {s : σ} {b : β} (h : body s = some (.inr b)) (N : Nat) : iter body (N + 1) s = some b := by rw [iter, h]
theorem iter_inl {σ β : Type} {body : σ → Option (σ ⊕ β)} {s s' : σ} (h : body s = some (.inl s')) (N : Nat) : iter body (N + 1) s = iter body N s' := by rw [iter, h]
def scan (p : List UInt8 → Bool) : List UInt8 → Nat
 | [] => 0
 | b :: l => if p (b :: l) then 0 else scan p l + 1
theorem scan_le (p : List UInt8 → Bool) : ∀ l, scan p l ≤ l.length
 | [] => Nat.le_refl _
 | b :: l => by unfold scan; split; exact Nat.zero_le _; have := scan_le p l; simp only [List.length_cons]; omega
theorem iter_scan {body : Int → Option (Int ⊕ Int)} (p : List UInt8 → Bool) (s : List UInt8) (h : ∀ k : Nat, k ≤ s.length → body k = if k < s.length ∧ p (s.drop k) = false then some (.inl ((k : Int) + 1)) else some (.inr k)) :
  ∀ N, s.length < N → iter body N 0 = some (scan p s : Int) := by
 have key : ∀ j k N, k + j = s.length → j < N → iter body N (k : Int) = some ((k + scan p (s.drop k) : Nat) : Int) := by
  intro j
  induction j with
  | zero =>
   intro k N hk hN
   obtain ⟨N, rfl⟩ : ∃ M, N = M + 1 := ⟨N - 1, by omega⟩
   have e : s.drop k = [] := List.drop_eq_nil_of_le (by omega)
   rw [iter, h k (by omega), if_neg (by omega), e]
   rfl
  | succ j ih =>
   intro k N hk hN
   obtain ⟨N, rfl⟩ : ∃ M, N = M + 1 := ⟨N - 1, by omega⟩
   have hlt : k < s.length := by omega
   have e : s.drop k = s[k] :: s.drop (k + 1) := List.drop_eq_getElem_cons hlt
   rw [iter, h k (by omega)]
   by_cases hp : p (s.drop k) = false
   ·rw [if_pos ⟨hlt, hp⟩]
    simp only
    have := ih (k + 1) N (by omega) (by omega)
    rw [show ((k : Int) + 1) = ((k + 1 : Nat) : Int) by omega, this, e]
    rw [e] at hp
    simp only [scan, hp]
    congr 1
    simp only [Bool.false_eq_true, if_false]
    omega
   ·rw [if_neg (fun x => hp x.2)]
    have hp2 := eq_true_of_ne_false hp
    rw [e] at hp2
    show some (k : Int) = _
    rw [e, scan, if_pos hp2]
    rfl
 intro N hN
 have := key s.length 0 N (by omega) hN
 simpa using this
theorem iter_all {body : Int → Option (Int ⊕ (Unit ⊕ Bool))} (p : UInt8 → Bool) (v : Bool) (s : List UInt8) (h1 : ∀ (k : Nat) c, s[k]? = some c → body k = if p c then some (.inl ((k : Int) + 1)) else some (.inr (.inr v))) (h2 : body s.length = some (.inr (.inl ()))) :
  ∀ N, s.length < N → iter body N 0 = some (if s.all p then .inl () else .inr v) := by
 have key : ∀ j k N, k + j = s.length → j < N → iter body N (k : Int) = some (if (s.drop k).all p then .inl () else .inr v) := by
  intro j
  induction j with
  | zero =>
   intro k N hk hN
   obtain ⟨N, rfl⟩ : ∃ M, N = M + 1 := ⟨N - 1, by omega⟩
   have e : s.drop k = [] := List.drop_eq_nil_of_le (by omega)
   obtain rfl : k = s.length := by omega
   simp only [iter, h2, e]
   rfl
  | succ j ih =>
   intro k N hk hN
   obtain ⟨N, rfl⟩ : ∃ M, N = M + 1 := ⟨N - 1, by omega⟩
   have hlt : k < s.length := by omega
   have e : s.drop k = s[k] :: s.drop (k + 1) := List.drop_eq_getElem_cons hlt
   rw [iter, h1 k _ (List.getElem?_eq_getElem hlt), e, List.all_cons]
   cases hp : p s[k] with
   | false => simp
   | true =>
    simp only [if_true, Bool.true_and]
    rw [show ((k : Int) + 1) = ((k + 1 : Nat) : Int) by omega]
    exact ih (k + 1) N (by omega) (by omega)
 intro N hN
 have := key s.length 0 N (by omega) hN
 simpa using this
theorem slc_some {α : Type} {xs : List α} {a b : Nat} (h1 : a ≤ b) (h2 : b ≤ xs.length) : slc xs (a : Int) (b : Int) = some ((xs.drop a).take (b - a)) := by
 unfold slc
 rw [if_pos (by omega)]
 congr 2
 omega
theorem slc_take {α : Type} {xs : List α} {b : Nat} (h : b ≤ xs.length) : slc xs 0 (b : Int) = some (xs.take b) := by
 have := slc_some (xs := xs) (Nat.zero_le b) h
 simpa using this
theorem slc_drop {α : Type} {xs : List α} {a : Nat} (h : a ≤ xs.length) : slc xs (a : Int) (xs.length : Int) = some (xs.drop a) := by
 rw [slc_some h (Nat.le_refl _), List.take_of_length_le (by simp)]
theorem idx_some {α : Type} {xs : List α} {k : Nat} {c : α} (h : xs[k]? = some c) : idx xs (k : Int) = some c := by
 unfold idx; rw [if_pos (by omega)]; simpa using h
theorem cat_some {a b : List UInt8} (h : a.length + b.length ≤ 1000000) : cat a b = some (a ++ b) := by
 unfold cat; rw [if_pos (by unfold LIMS; omega)]
theorem wrap_id {z : Int} (h1 : -1000000 ≤ z) (h2 : z ≤ 1000000) : IntKind.wrap .i64 z = z := wrap_of (inR_i64.2 ⟨by omega, by omega⟩)
theorem beq_nil (l : List UInt8) : (l == []) = decide (l = []) := by cases l <;> rfl
def fnd (sub : List UInt8) (s : List UInt8) : Nat := scan (fun l => sub.isPrefixOf l) s
theorem fnd_cons (sub : List UInt8) (b : UInt8) (l : List UInt8) : fnd sub (b :: l) = if sub.isPrefixOf (b :: l) then 0 else fnd sub l + 1 := rfl
theorem index_fnd {sub : List UInt8} (h : sub ≠ []) : ∀ s, Lib.index s sub = if fnd sub s < s.length then (fnd sub s : Int) else -1
 | [] => by
  cases sub with
  | nil => exact absurd rfl h
  | cons a t => rfl
 | b :: l => by
  have ih := index_fnd h l
  rw [fnd_cons]
  unfold Lib.index
  cases hp : sub.isPrefixOf (b :: l) with
  | true => simp
  | false =>
   rw [ih]
   simp only [Bool.false_eq_true, if_false, List.length_cons]
   by_cases h1 : fnd sub l < l.length
   ·rw [if_pos h1, if_pos (show fnd sub l + 1 < l.length + 1 by omega), if_neg (by rw [beq_iff_eq]; omega)]
    rfl
   ·rw [if_neg h1, if_neg (show ¬ fnd sub l + 1 < l.length + 1 by omega)]
    rfl
theorem cut_fnd {sub s : List UInt8} (h : sub ≠ []) : Lib.cut s sub = if fnd sub s < s.length then (s.take (fnd sub s), s.drop (fnd sub s + sub.length), true) else (s, [], false) := by
 unfold Lib.cut
 rw [index_fnd h]
 by_cases h1 : fnd sub s < s.length
 ·simp only [if_pos h1]
  rw [if_pos (by omega)]
  simp
 ·simp only [if_neg h1]
  rw [if_neg (by decide)]
theorem cat_le {a b : List UInt8} (h : a.length + b.length ≤ LIMS) : cat a b = some (a ++ b) := by unfold cat; rw [if_pos h]
end Go.X
namespace Go.X
def run {σ α β : Type} (f : σ → α → σ ⊕ β) (fin : σ → β) : σ → List α → β
 | s, [] => fin s
 | s, x :: xs => match f s x with
  | .inl s' => run f fin s' xs
  | .inr b => b
theorem iter_list {σ τ α β : Type} {body : τ → Option (τ ⊕ β)} (mkS : σ → Int → τ) (xs : List α) (f : σ → α → σ ⊕ β) (fin : σ → β) (I : Nat → σ → Prop)
  (h1 : ∀ s (k : Nat) x, xs[k]? = some x → I k s → body (mkS s k) = some (match f s x with | .inl s' => .inl (mkS s' ((k : Int) + 1)) | .inr b => .inr b) ∧ ∀ s', f s x = .inl s' → I (k + 1) s')
  (h2 : ∀ s, I xs.length s → body (mkS s xs.length) = some (.inr (fin s))) :
  ∀ N s, xs.length < N → I 0 s → iter body N (mkS s 0) = some (run f fin s xs) := by
 have key : ∀ j k N s, k + j = xs.length → j < N → I k s → iter body N (mkS s (k : Int)) = some (run f fin s (xs.drop k)) := by
  intro j
  induction j with
  | zero =>
   intro k N s hk hN hI
   obtain ⟨N, rfl⟩ : ∃ M, N = M + 1 := ⟨N - 1, by omega⟩
   have e : xs.drop k = [] := List.drop_eq_nil_of_le (by omega)
   obtain rfl : k = xs.length := by omega
   rw [iter, h2 s hI, e]; rfl
  | succ j ih =>
   intro k N s hk hN hI
   obtain ⟨N, rfl⟩ : ∃ M, N = M + 1 := ⟨N - 1, by omega⟩
   have hlt : k < xs.length := by omega
   have e : xs.drop k = xs[k] :: xs.drop (k + 1) := List.drop_eq_getElem_cons hlt
   obtain ⟨h3, h4⟩ := h1 s k _ (List.getElem?_eq_getElem hlt) hI
   rw [iter, h3, e]
   simp only [run]
   cases hf : f s xs[k] with
   | inl s' =>
    simp only
    rw [show ((k : Int) + 1) = ((k + 1 : Nat) : Int) by omega]
    exact ih (k + 1) N s' (by omega) (by omega) (h4 s' hf)
   | inr b => rfl
 intro N s hN hI
 have := key xs.length 0 N s (by omega) hN hI
 simpa using this
theorem iter_list' {σ τ α β : Type} {body : τ → Option (τ ⊕ β)} (mkS : σ → Int → τ) (xs : List α) (f : σ → α → σ ⊕ β) (fin : σ → β)
  (h1 : ∀ s (k : Nat) x, xs[k]? = some x → body (mkS s k) = some (match f s x with | .inl s' => .inl (mkS s' ((k : Int) + 1)) | .inr b => .inr b))
  (h2 : ∀ s, body (mkS s xs.length) = some (.inr (fin s))) (N : Nat) (s : σ) (hN : xs.length < N) : iter body N (mkS s 0) = some (run f fin s xs) :=
 iter_list mkS xs f fin (fun _ _ => True) (fun s k x hx _ => ⟨h1 s k x hx, fun _ _ => trivial⟩) (fun s _ => h2 s) N s hN trivial
theorem iter_find {α : Type} {body : Int → Option (Int ⊕ (Unit ⊕ Int))} (xs : List α) (p : α → Bool)
  (h1 : ∀ (k : Nat) x, xs[k]? = some x → body k = some (if p x then .inr (.inr k) else .inl ((k : Int) + 1))) (h2 : body xs.length = some (.inr (.inl ()))) (N : Nat) (hN : xs.length < N) :
  iter body N 0 = some (match xs.findIdx? p with | some k => .inr (k : Int) | none => .inl ()) := by
 have key : ∀ j k N, k + j = xs.length → j < N → iter body N (k : Int) = some (match (xs.drop k).findIdx? p with | some i => .inr ((k + i : Nat) : Int) | none => .inl ()) := by
  intro j
  induction j with
  | zero =>
   intro k N hk hN
   obtain ⟨N, rfl⟩ : ∃ M, N = M + 1 := ⟨N - 1, by omega⟩
   have e : xs.drop k = [] := List.drop_eq_nil_of_le (by omega)
   obtain rfl : k = xs.length := by omega
   rw [iter, h2, e]; rfl
  | succ j ih =>
   intro k N hk hN
   obtain ⟨N, rfl⟩ : ∃ M, N = M + 1 := ⟨N - 1, by omega⟩
   have hlt : k < xs.length := by omega
   have e : xs.drop k = xs[k] :: xs.drop (k + 1) := List.drop_eq_getElem_cons hlt
   rw [iter, h1 k _ (List.getElem?_eq_getElem hlt), e, List.findIdx?_cons]
   cases hp : p xs[k] with
   | true => simp
   | false =>
    simp only [Bool.false_eq_true, if_false]
    rw [show ((k : Int) + 1) = ((k + 1 : Nat) : Int) by omega, ih (k + 1) N (by omega) (by omega)]
    cases (xs.drop (k + 1)).findIdx? p with
    | none => rfl
    | some i => simp only [Option.map_some]; congr 3; omega
 have := key xs.length 0 N (by omega) hN
 simpa using this
theorem find_any {α : Type} (xs : List α) (p : α → Bool) : ((some (match xs.findIdx? p with | some k => Sum.inr (k : Int) | none => Sum.inl ()) : Option (Unit ⊕ Int)).bind fun o => Sum.elim (fun _ => some (-1)) (fun o => some o) o) = some (match xs.findIdx? p with | some k => (k : Int) | none => -1) := by
 cases xs.findIdx? p <;> rfl
theorem find_ge {α : Type} (xs : List α) (p : α → Bool) : decide ((match xs.findIdx? p with | some k => (k : Int) | none => -1) ≥ 0) = xs.any p := by
 cases h : xs.findIdx? p with
 | none =>
  have : xs.any p = false := by
   rw [List.any_eq_false]; intro x hx
   have := List.findIdx?_eq_none_iff.1 h x hx
   simp [this]
  rw [this]; rfl
 | some k =>
  have : xs.any p = true := by
   obtain ⟨x, hx, hp⟩ := List.findIdx?_eq_some_iff_getElem.1 h
   exact List.any_eq_true.2 ⟨_, List.getElem_mem x, by first | exact hx | exact hp.1 | exact hp⟩
  rw [this]
  simp
theorem run_all {α : Type} (p : α → Bool) : ∀ xs : List α, run (σ := Unit) (β := Unit ⊕ Bool) (fun _ x => if p x then .inl () else .inr (.inr false)) (fun _ => .inl ()) () xs = if xs.all p then .inl () else .inr false
 | [] => rfl
 | x :: xs => by
  unfold run
  cases h : p x with
  | true => simp only [if_true, run_all p xs, List.all_cons, h, Bool.true_and]
  | false => simp [h]
theorem iter_allL {α : Type} {body : Int → Option (Int ⊕ (Unit ⊕ Bool))} (p : α → Bool) (xs : List α) (h1 : ∀ (k : Nat) x, xs[k]? = some x → body k = some (if p x then .inl ((k : Int) + 1) else .inr (.inr false))) (h2 : body xs.length = some (.inr (.inl ()))) (N : Nat) (hN : xs.length < N) :
  iter body N 0 = some (if xs.all p then .inl () else .inr false) := by
 rw [← run_all p xs]
 refine iter_list' (σ := Unit) (fun _ k => k) xs _ _ (fun _ k x hx => ?_) (fun _ => h2) N () hN
 rw [h1 k x hx]
 cases p x <;> rfl
theorem iter_anyL {α : Type} {body : Int → Option (Int ⊕ (Unit ⊕ Bool))} (p : α → Bool) (xs : List α) (h1 : ∀ (k : Nat) x, xs[k]? = some x → body k = some (if p x then .inr (.inr true) else .inl ((k : Int) + 1))) (h2 : body xs.length = some (.inr (.inl ()))) (N : Nat) (hN : xs.length < N) :
  iter body N 0 = some (if xs.any p then .inr true else .inl ()) := by
 have e : ∀ xs : List α, run (σ := Unit) (β := Unit ⊕ Bool) (fun _ x => if p x then .inr (.inr true) else .inl ()) (fun _ => .inl ()) () xs = if xs.any p then .inr true else .inl () := by
  intro xs
  induction xs with
  | nil => rfl
  | cons x xs ih =>
   unfold run
   cases h : p x with
   | true => simp [h]
   | false => simp only [Bool.false_eq_true, if_false, ih, List.any_cons, h, Bool.false_or]
 rw [← e xs]
 refine iter_list' (σ := Unit) (fun _ k => k) xs _ _ (fun _ k x hx => ?_) (fun _ => h2) N () hN
 rw [h1 k x hx]
 cases p x <;> rfl
theorem dlt {k n : Nat} (h : k < n) : decide ((k : Int) < (n : Int)) = true := decide_eq_true (by omega)
theorem dnlt {n : Nat} : decide ((n : Int) < (n : Int)) = false := decide_eq_false (by omega)
theorem getlt {α : Type} {xs : List α} {k : Nat} {x : α} (h : xs[k]? = some x) : k < xs.length := (List.getElem?_eq_some_iff.1 h).1
theorem dltx {α : Type} {xs : List α} {k : Nat} {x : α} (h : xs[k]? = some x) : decide ((k : Int) < (xs.length : Int)) = true := dlt (getlt h)
end Go.X
namespace Go.Proofs.YtboacfcnmhnbdaaGreatDoor
open Go.X
def dgt (c : UInt8) : Bool := decide (48 ≤ c.toNat) && decide (c.toNat ≤ 57)
def zr (c : UInt8) : Bool := c == 48
theorem dropWhile_nil {α : Type} (p : α → Bool) : ∀ l : List α, l.dropWhile p = [] ↔ ∀ x ∈ l, p x = true
 | [] => by simp
 | b :: l => by
  have ih := dropWhile_nil p l
  cases h : p b with
  | true => simp [h, ih]
  | false => simp [h]
theorem trim_nil (l cs : List UInt8) : (Lib.trimS l cs == []) = l.all (cs.contains ·) := by
 have h : Lib.trimS l cs = [] ↔ ∀ x ∈ l, cs.contains x = true := by
  unfold Lib.trimS Lib.trimLeftS Lib.trimRightS
  rw [dropWhile_nil]
  constructor
  ·intro h x hx
   have e := List.takeWhile_append_dropWhile (p := fun b => cs.contains b) (l := l.reverse)
   have hx' : x ∈ l.reverse := List.mem_reverse.2 hx
   rw [← e] at hx'
   rcases List.mem_append.1 hx' with h1 | h1
   ·exact List.all_eq_true.1 List.all_takeWhile x h1
   ·exact h x (List.mem_reverse.2 h1)
  ·intro h x hx
   refine h x ?_
   have := List.mem_reverse.1 hx
   exact List.mem_reverse.1 ((List.dropWhile_sublist _).mem this)
 rw [beq_nil, Bool.eq_iff_iff]
 simp only [decide_eq_true_eq, List.all_eq_true]
 exact h
theorem contains_dgt (c : UInt8) : ([48, 49, 50, 51, 52, 53, 54, 55, 56, 57] : List UInt8).contains c = dgt c := by
 have h : ∀ n, n < 256 → ([48, 49, 50, 51, 52, 53, 54, 55, 56, 57] : List UInt8).contains (UInt8.ofNat n) = dgt (UInt8.ofNat n) := by decide +kernel
 have := h c.toNat c.toNat_lt
 simpa using this
theorem decimal_digits_eq (N : Nat) (s : List UInt8) : decimal_digits N s = some (s.all dgt) := by
 unfold decimal_digits strings_Trim
 rw [if_pos ⟨by decide, by decide⟩]
 simp only [Option.bind_some, trim_nil]
 congr 2
 funext c
 exact contains_dgt c
theorem decimal_zero_eq (N : Nat) (s : List UInt8) : decimal_zero N s = some (s.all zr) := by
 unfold decimal_zero strings_Trim
 rw [if_pos ⟨by decide, by decide⟩]
 simp only [Option.bind_some, trim_nil]
 congr 2
 funext c
 simp [zr]
 rfl
theorem ref_digits_eq {N : Nat} {s : List UInt8} (hN : s.length < N) : calqueref07_digits N s = some (s.all dgt) := by
 unfold calqueref07_digits
 rw [iter_all dgt false s (fun k c hk => ?_) ?_ N hN]
 ·cases s.all dgt <;> rfl
 ·unfold calqueref07_digits_b1
  simp
 ·have hlt := (List.getElem?_eq_some_iff.1 hk).1
  unfold calqueref07_digits_b1
  simp only [idx_some hk, Option.bind_some, show decide ((k : Int) < (s.length : Int)) = true from decide_eq_true (by omega), cond_true]
  unfold dgt
  by_cases h1 : (c.toNat : Int) < 48
  ·simp only [decide_eq_true h1, cond_true]
   rw [if_neg]
   simp; omega
  ·simp only [decide_eq_false h1, cond_false]
   by_cases h2 : (c.toNat : Int) > 57
   ·simp only [decide_eq_true h2, cond_true]
    rw [if_neg]
    simp; omega
   ·simp only [decide_eq_false h2, cond_false]
    rw [if_pos]
    simp; omega
theorem ref_Zero_eq {N : Nat} {s : List UInt8} (hN : s.length < N) : calqueref07_Zero N s = some (s.all zr) := by
 unfold calqueref07_Zero
 rw [iter_all zr false s (fun k c hk => ?_) ?_ N hN]
 ·cases s.all zr <;> rfl
 ·unfold calqueref07_Zero_b1
  simp
 ·have hlt := (List.getElem?_eq_some_iff.1 hk).1
  unfold calqueref07_Zero_b1
  simp only [idx_some hk, Option.bind_some, show decide ((k : Int) < (s.length : Int)) = true from decide_eq_true (by omega), cond_true]
  unfold zr
  by_cases h1 : c = 48
  ·subst h1; rfl
  ·have : ((c.toNat : Int) != 48) = true := by
    rw [bne_iff_ne]
    intro e
    exact h1 (UInt8.toNat_inj.1 (by show c.toNat = 48; omega))
   simp [this, h1]
def neg (s : List UInt8) : Bool := ([45] : List UInt8).isPrefixOf s
def bod (s : List UInt8) : List UInt8 := if neg s then s.drop 1 else s
def pt (s : List UInt8) : Bool := decide (fnd [46] (bod s) < (bod s).length)
def wh (s : List UInt8) : List UInt8 := (bod s).take (fnd [46] (bod s))
def fr (s : List UInt8) : List UInt8 := if pt s then (bod s).drop (fnd [46] (bod s) + 1) else []
def vld (s : List UInt8) : Bool :=
 !(decide (((wh s).length : Int) < 1)) && (!(decide (((wh s).length : Int) > 15)) && ((wh s).all dgt && (!(decide (((wh s).length : Int) > 1) && (((wh s).getD 0 0).toNat : Int) == 48) &&
 (!(pt s && (((fr s).length : Int) == 0)) && (!(decide (((fr s).length : Int) > 6)) && ((fr s).all dgt && !(neg s && ((wh s).all zr && (fr s).all zr))))))))
theorem bod_len (s : List UInt8) : (bod s).length ≤ s.length := by unfold bod; split <;> simp
theorem wh_len (s : List UInt8) : (wh s).length ≤ s.length := by have := bod_len s; unfold wh; rw [List.length_take]; omega
theorem prog_cut {N : Nat} {s : List UInt8} (hs : s.length ≤ 1000) : (strings_CutPrefix N s [45]).bind (fun r => (strings_Cut N r.1 [46]).bind fun q => some (r.2, q)) = some (neg s, wh s, fr s, pt s) := by
 have hl := bod_len s
 unfold strings_CutPrefix strings_Cut
 have e : Lib.trimPrefix s [45] = bod s := rfl
 have e2 : Lib.hasPrefix s [45] = neg s := rfl
 rw [e, e2]
 simp only [Option.bind_some]
 rw [if_pos (by omega), cut_fnd (by decide)]
 simp only [Option.bind_some]
 unfold wh fr pt
 by_cases h1 : fnd [46] (bod s) < (bod s).length
 ·simp [h1]
 ·have : fnd [46] (bod s) = (bod s).length := by have := scan_le (fun l => ([46] : List UInt8).isPrefixOf l) (bod s); unfold fnd at h1 ⊢; omega
  simp [this]
theorem prog_cut1 {N : Nat} {s : List UInt8} : strings_CutPrefix N s [45] = some (bod s, neg s) := rfl
theorem prog_cut2 {N : Nat} {s : List UInt8} (hs : s.length ≤ 1000) : strings_Cut N (bod s) [46] = some (wh s, fr s, pt s) := by
 have := prog_cut (N := N) hs
 rw [prog_cut1] at this
 simp only [Option.bind_some] at this
 cases h : strings_Cut N (bod s) [46] with
 | none => rw [h] at this; cases this
 | some q => rw [h] at this; simp only [Option.bind_some, Option.some.injEq, Prod.mk.injEq, true_and] at this; obtain ⟨rfl⟩ := this; rfl
theorem decimal_split_eq {N : Nat} {s : List UInt8} (hs : s.length ≤ 1000) : decimal_split N s = some (Number.mk (neg s) (wh s) (fr s), vld s) := by
 unfold decimal_split
 rw [prog_cut1]
 simp only [Option.bind_some]
 rw [prog_cut2 hs]
 simp only [Option.bind_some, decimal_digits_eq, decimal_number_zero, decimal_zero_eq]
 unfold vld
 generalize pt s = b5
 generalize neg s = b9
 generalize fr s = f
 generalize hw : wh s = w
 cases w with
 | nil => rfl
 | cons c t =>
  have hi : idx (c :: t) 0 = some c := rfl
  have hg : (c :: t).getD 0 0 = c := rfl
  simp only [hi, hg, Option.bind_some]
  generalize decide ((((c :: t).length : Nat) : Int) < 1) = b1
  generalize decide ((((c :: t).length : Nat) : Int) > 15) = b2
  generalize decide ((((c :: t).length : Nat) : Int) > 1) = b4
  generalize ((c.toNat : Int) == 48) = b3
  generalize ((f.length : Int) == 0) = b6
  generalize decide ((f.length : Int) > 6) = b7
  generalize (c :: t).all dgt = d1
  generalize f.all dgt = d2
  generalize (c :: t).all zr = z1
  generalize f.all zr = z2
  cases b1 <;> cases b2 <;> cases d1 <;> cases b4 <;> cases b3 <;> try rfl
  all_goals cases b5 <;> cases b6 <;> cases b7 <;> cases d2 <;> try rfl
  all_goals cases b9 <;> cases z1 <;> cases z2 <;> rfl
theorem wf_len (s : List UInt8) : (wh s).length + (fr s).length ≤ s.length := by
 have := bod_len s
 have := scan_le (fun l => ([46] : List UInt8).isPrefixOf l) (bod s)
 unfold wh fr fnd
 rw [List.length_take]
 split
 ·rw [List.length_drop]; omega
 ·simp only [List.length_nil]; omega
theorem ref_split_big {N : Nat} {s : List UInt8} (hs : s.length ≤ LIMS) (hN : s.length + 1000 ≤ N) : calqueref07_Split N s = some (if vld s then Number2.mk (neg s) (wh s) (fr s) else Number2.mk false [] [], vld s) := by
 unfold calqueref07_Split
 cases s with
 | nil =>
  simp only [List.length_nil, show decide (((0 : Nat) : Int) > 0) = false from rfl, cond_false]
  rw [iter_scan (fun l => ([46] : List UInt8).isPrefixOf l) [] (fun k hk => by simp only [List.length_nil, Nat.le_zero] at hk; subst hk; rfl) N (by simp; omega)]
  have e : ∀ x : Option Bool, (x.bind fun r97 => bif !r97 then some (Number2.mk false [] [], false) else some (Number2.mk false [] [], false)) = x.bind fun _ => some (Number2.mk false [] [], false) := fun x => by cases x <;> simp
  simp only [Option.bind_some, scan]
  rw [show slc ([] : List UInt8) 0 ((0 : Nat) : Int) = some [] from rfl]
  simp only [Option.bind_some, List.length_nil, show decide (((0 : Nat) : Int) < ((0 : Nat) : Int)) = false from rfl, cond_false, Sum.elim_inl]
  rw [show cat [] [] = some [] from rfl]
  simp only [Option.bind_some]
  rw [ref_digits_eq (by simp; omega)]
  rfl
 | cons c t =>
  simp only [List.length_cons] at hs
  simp only [List.length_cons, show decide (((t.length + 1 : Nat) : Int) > 0) = true from decide_eq_true (by omega), cond_true]
  have hi : idx (c :: t) 0 = some c := rfl
  simp only [hi, Option.bind_some]
  have hnb : (bif ((c.toNat : Int) == 45) then ((slc (c :: t) 1 ((t.length + 1 : Nat) : Int)).bind fun s15 => some (s15, Number2.mk true [] [])).bind fun o11 => some (o11.1, o11.2) else some (c :: t, Number2.mk false [] [])) = some (bod (c :: t), Number2.mk (neg (c :: t)) [] []) := by
   have hneg : neg (c :: t) = ((c.toNat : Int) == 45) := by
    unfold neg
    by_cases h : c = 45
    ·subst h; rfl
    ·have : ((c.toNat : Int) == 45) = false := by
      rw [beq_eq_false_iff_ne]; intro e
      exact h (UInt8.toNat_inj.1 (by show c.toNat = 45; omega))
     rw [this]
     simp [List.isPrefixOf, Ne.symm h]
   unfold bod
   rw [hneg]
   cases ((c.toNat : Int) == 45) with
   | false => rfl
   | true =>
    have := slc_drop (xs := c :: t) (a := 1) (by simp)
    simp only [List.length_cons] at this
    rw [show ((1 : Nat) : Int) = 1 from rfl] at this
    simp only [cond_true, this, Option.bind_some, if_true]
  rw [hnb]
  simp only [Option.bind_some]
  have hbl := bod_len (c :: t)
  have hwl := wh_len (c :: t)
  have hfl := wf_len (c :: t)
  simp only [List.length_cons] at hbl hwl hfl hN
  rw [iter_scan (fun l => ([46] : List UInt8).isPrefixOf l) (bod (c :: t)) (fun k hk => ?_) N (by omega)]
  rotate_left
  ·unfold calqueref07_Split_b1
   by_cases hlt : k < (bod (c :: t)).length
   ·simp only [show decide ((k : Int) < ((bod (c :: t)).length : Int)) = true from decide_eq_true (by omega), cond_true, idx_some (List.getElem?_eq_getElem hlt), Option.bind_some]
    rw [List.drop_eq_getElem_cons hlt]
    by_cases h : (bod (c :: t))[k] = 46
    ·rw [if_neg (by rw [h]; simp [List.isPrefixOf]), h]
     rfl
    ·have : (((bod (c :: t))[k].toNat : Int) != 46) = true := by
      rw [bne_iff_ne]; intro e
      exact h (UInt8.toNat_inj.1 (by show (bod (c :: t))[k].toNat = 46; omega))
     rw [if_pos ⟨hlt, by simp [List.isPrefixOf, Ne.symm h]⟩, this]
     rfl
   ·simp only [show decide ((k : Int) < ((bod (c :: t)).length : Int)) = false from decide_eq_false (by omega), cond_false]
    rw [if_neg (by omega)]
  have hsl := scan_le (fun l => ([46] : List UInt8).isPrefixOf l) (bod (c :: t))
  simp only [Option.bind_some]
  rw [slc_take hsl]
  simp only [Option.bind_some]
  have hw0 : List.take (scan (fun l => ([46] : List UInt8).isPrefixOf l) (bod (c :: t))) (bod (c :: t)) = wh (c :: t) := rfl
  have hp0 : decide (((scan (fun l => ([46] : List UInt8).isPrefixOf l) (bod (c :: t)) : Nat) : Int) < ((bod (c :: t)).length : Int)) = pt (c :: t) := by
   unfold pt fnd
   simp only [Int.ofNat_lt]
  rw [hw0, hp0]
  have hf0 : pt (c :: t) = true → slc (bod (c :: t)) (((scan (fun l => ([46] : List UInt8).isPrefixOf l) (bod (c :: t)) : Nat) : Int) + 1) ((bod (c :: t)).length : Int) = some (fr (c :: t)) := by
   intro h
   have h' := h
   unfold pt at h'
   have h2 := of_decide_eq_true h'
   unfold fr
   rw [if_pos h]
   have := slc_drop (xs := bod (c :: t)) (a := fnd [46] (bod (c :: t)) + 1) h2
   unfold fnd at this ⊢
   simpa using this
  have hf1 : pt (c :: t) = false → fr (c :: t) = [] := fun h => by unfold fr; rw [if_neg (by rw [h]; simp)]
  unfold vld
  generalize hpt : pt (c :: t) = b5 at *
  generalize neg (c :: t) = b9
  generalize fr (c :: t) = f at *
  have hcat := cat_le (a := wh (c :: t)) (b := f) (by omega)
  have hall : (wh (c :: t) ++ f).length < N := by rw [List.length_append]; omega
  have hdg := ref_digits_eq hall
  have hzz := ref_Zero_eq hall
  rw [List.all_append] at hdg hzz
  generalize hw : wh (c :: t) = w at *
  cases b5 with
  | false =>
   have hf := hf1 rfl
   subst hf
   simp only [cond_false, Option.bind_some, Sum.elim_inl, hcat, hdg, hzz]
   cases w with
   | nil => rfl
   | cons a r =>
    have hi : idx (a :: r) 0 = some a := rfl
    have hg : (a :: r).getD 0 0 = a := rfl
    simp only [hi, hg, Option.bind_some]
    generalize decide ((((a :: r).length : Nat) : Int) < 1) = b1
    generalize decide ((((a :: r).length : Nat) : Int) > 15) = b2
    generalize decide ((((a :: r).length : Nat) : Int) > 1) = b4
    generalize ((a.toNat : Int) == 48) = b3
    generalize (a :: r).all dgt = d1
    generalize (a :: r).all zr = z1
    cases b1 <;> cases b2 <;> cases d1 <;> cases b4 <;> cases b3 <;> cases b9 <;> cases z1 <;> rfl
  | true =>
   simp only [cond_true, hf0 rfl, Option.bind_some]
   cases hb6 : ((f.length : Int) == 0) with
   | true =>
    simp only [cond_true, Option.bind_some, Sum.elim_inr]
    simp
   | false =>
    simp only [cond_false, Option.bind_some, Sum.elim_inl, hcat, hdg, hzz]
    cases w with
    | nil => cases f.all dgt <;> rfl
    | cons a r =>
     have hi : idx (a :: r) 0 = some a := rfl
     have hg : (a :: r).getD 0 0 = a := rfl
     simp only [hi, hg, Option.bind_some]
     generalize decide ((((a :: r).length : Nat) : Int) < 1) = b1
     generalize decide ((((a :: r).length : Nat) : Int) > 15) = b2
     generalize decide ((((a :: r).length : Nat) : Int) > 1) = b4
     generalize ((a.toNat : Int) == 48) = b3
     generalize decide ((f.length : Int) > 6) = b7
     generalize (a :: r).all dgt = d1
     generalize f.all dgt = d2
     generalize (a :: r).all zr = z1
     generalize f.all zr = z2
     cases b1 <;> cases b2 <;> cases d1 <;> cases d2 <;> cases b4 <;> cases b3 <;> try rfl
     all_goals cases b7 <;> cases b9 <;> cases z1 <;> cases z2 <;> rfl
theorem ref_split_eq {N : Nat} {s : List UInt8} (hs : s.length ≤ 1000) (hN : 3000 ≤ N) : calqueref07_Split N s = some (if vld s then Number2.mk (neg s) (wh s) (fr s) else Number2.mk false [] [], vld s) := ref_split_big (by unfold LIMS; omega) (by omega)
theorem decimal_Valid_eq {N : Nat} {s : List UInt8} (hs : s.length ≤ 1000) : decimal_Valid N s = some (vld s) := by
 unfold decimal_Valid; rw [decimal_split_eq hs]; rfl
theorem ref_Valid_eq {N : Nat} {s : List UInt8} (hs : s.length ≤ 1000) (hN : 3000 ≤ N) : calqueref07_Valid N s = some (vld s) := by
 unfold calqueref07_Valid; rw [ref_split_eq hs hN]; rfl
def vl (acc : Nat) (s : List UInt8) : Nat := s.foldl (fun n c => 10 * n + (c.toNat - 48)) acc
theorem dgt_iff {c : UInt8} : dgt c = true ↔ 48 ≤ c.toNat ∧ c.toNat ≤ 57 := by unfold dgt; simp
theorem decFrom_vl : ∀ (s : List UInt8) (acc : Nat), s.all dgt = true → Lib.decFrom acc s = some (vl acc s)
 | [], _, _ => rfl
 | c :: s, acc, h => by
  rw [List.all_cons, Bool.and_eq_true] at h
  have hc := dgt_iff.1 h.1
  have : Lib.digitVal c = some (c.toNat - 48) := by unfold Lib.digitVal; rw [if_pos hc]
  rw [Lib.decFrom, this]
  simp only
  rw [decFrom_vl s _ h.2, Nat.mul_comm acc 10]
  rfl
theorem vl_lt : ∀ (s : List UInt8) (acc k : Nat), s.all dgt = true → acc < 10 ^ k → vl acc s < 10 ^ (k + s.length)
 | [], acc, k, _, h => by simpa [vl] using h
 | c :: s, acc, k, h, ha => by
  rw [List.all_cons, Bool.and_eq_true] at h
  have hc := dgt_iff.1 h.1
  have := vl_lt s (10 * acc + (c.toNat - 48)) (k + 1) h.2 (by rw [Nat.pow_succ]; omega)
  rw [show k + (c :: s).length = k + 1 + s.length by simp only [List.length_cons]; omega]
  exact this
theorem pow_le18 {k : Nat} (h : k ≤ 18) : 10 ^ k ≤ 1000000000000000000 := by
 have : 10 ^ k ≤ 10 ^ 18 := Nat.pow_le_pow_right (by omega) h
 simpa using this
theorem decimal_value_eq {N : Nat} {s : List UInt8} (hl : s.length ≤ 15) (hd : s.all dgt = true) : decimal_value N s = some (vl 0 s : Int) := by
 unfold decimal_value
 rw [cat_some (by simp only [List.length_cons, List.length_nil]; omega)]
 simp only [Option.bind_some]
 unfold strconv_Atoi
 rw [if_pos (by simp only [List.length_append, List.length_cons, List.length_nil]; omega)]
 have hlt := vl_lt s 0 0 hd (by simp)
 have hp := pow_le18 (k := 0 + s.length) (by omega)
 have e : Lib.atoi ([48] ++ s) = some (vl 0 s : Int) := by
  have h1 : Lib.decNat (48 :: s) = some (vl 0 s) := by
   unfold Lib.decNat
   rw [if_neg (by simp), decFrom_vl _ _ (by rw [List.all_cons, hd]; rfl)]
   rfl
  show Lib.atoi (48 :: s) = _
  simp only [Lib.atoi, h1]
  rfl
 rw [e]
 simp only
 rw [if_pos (inR_i64.2 ⟨by omega, by omega⟩)]
 rfl
theorem ref_Value_eq {N : Nat} {s : List UInt8} (hl : s.length ≤ 15) (hd : s.all dgt = true) (hN : s.length < N) : calqueref07_Value N s = some (vl 0 s : Int) := by
 unfold calqueref07_Value
 have hrun : ∀ (xs : List UInt8) (n : Nat), run (σ := Nat) (β := Int) (fun n (c : UInt8) => .inl (10 * n + (c.toNat - 48))) (fun n => (n : Int)) n xs = (vl n xs : Int) := by
  intro xs
  induction xs with
  | nil => intro n; rfl
  | cons c xs ih => intro n; unfold run; simp only; rw [ih]; rfl
 have := iter_list (body := fun s_1 : Int × Int => calqueref07_Value_b1 N s s_1.1 s_1.2) (σ := Nat) (fun n k => ((n : Int), k)) s (fun n (c : UInt8) => .inl (10 * n + (c.toNat - 48))) (fun n => (n : Int)) (fun k n => n < 10 ^ k) (fun n k c hk hI => ?_) (fun n _ => ?_) N 0 hN (by simp)
 ·rw [show ((0 : Int), (0 : Int)) = (((0 : Nat) : Int), 0) from rfl, this, hrun]
  rfl
 ·have hlt := getlt hk
  have hc := dgt_iff.1 (List.all_eq_true.1 hd c (List.mem_of_getElem? hk))
  have hp := pow_le18 (k := k + 1) (by omega)
  rw [Nat.pow_succ] at hp
  constructor
  ·show calqueref07_Value_b1 N s n k = _
   unfold calqueref07_Value_b1
   simp only [dltx hk, cond_true, idx_some hk, Option.bind_some]
   have e1 : IntKind.wrap .u8 ((c.toNat : Int) - 48) = (c.toNat : Int) - 48 := wrap_of (inR_u8.2 ⟨by omega, by omega⟩)
   have e2 : IntKind.wrap .i64 ((10 : Int) * (n : Int)) = 10 * (n : Int) := wrap_of (inR_i64.2 ⟨by omega, by omega⟩)
   rw [e1, e2, wrap_of (inR_i64.2 ⟨by omega, by omega⟩)]
   congr 3
   simp only [Int.natCast_add, Int.natCast_mul]
   congr 1
   omega
  ·rintro n' ⟨⟩
   rw [Nat.pow_succ]; omega
 ·show calqueref07_Value_b1 N s n s.length = _
  unfold calqueref07_Value_b1
  simp only [dnlt, cond_false]
def rt (s : List UInt8) : List UInt8 := Lib.trimRightS s [48]
theorem rt_snoc (l : List UInt8) (c : UInt8) : rt (l ++ [c]) = if zr c then rt l else l ++ [c] := by
 unfold rt Lib.trimRightS zr
 rw [List.reverse_append]
 simp only [List.reverse_cons, List.reverse_nil, List.nil_append, List.cons_append, List.dropWhile_cons]
 by_cases h : c = 48
 ·subst h; simp
 ·simp [h]
theorem snoc_ind {p : List UInt8 → Prop} (h0 : p []) (h1 : ∀ l c, p l → p (l ++ [c])) (l : List UInt8) : p l := by
 rw [← List.reverse_reverse l]
 induction l.reverse with
 | nil => exact h0
 | cons c t ih => rw [List.reverse_cons]; exact h1 _ _ ih
theorem rt_nil (s : List UInt8) : rt s = [] ↔ s.all zr = true := by
 induction s using snoc_ind with
 | h0 => exact ⟨fun _ => rfl, fun _ => rfl⟩
 | h1 l c ih =>
  rw [rt_snoc, List.all_append]
  cases h : zr c with
  | true => simp [ih, h]
  | false => simp [h]
theorem rt_len (s : List UInt8) : (rt s).length ≤ s.length := by
 induction s using snoc_ind with
 | h0 => exact Nat.le_refl _
 | h1 l c ih => rw [rt_snoc]; split; rw [List.length_append]; omega; exact Nat.le_refl _
theorem rt_all {p : UInt8 → Bool} (s : List UInt8) (h : s.all p = true) : (rt s).all p = true := by
 induction s using snoc_ind with
 | h0 => rfl
 | h1 l c ih =>
  rw [rt_snoc]
  split
  ·rw [List.all_append, Bool.and_eq_true] at h; exact ih h.1
  ·exact h
theorem ref_Trim_eq : ∀ {s : List UInt8} {N : Nat}, s.length < N → s.length < 1000000 → calqueref07_Trim N s = some (rt s) := by
 have key : ∀ (s : List UInt8) (N M : Nat), s.length < N → s.length < 1000000 → iter (fun s => calqueref07_Trim_b1 M s) N s = some (rt s) := by
  intro s
  induction s using snoc_ind with
  | h0 =>
   intro N M hN _
   obtain ⟨N, rfl⟩ : ∃ K, N = K + 1 := ⟨N - 1, by omega⟩
   rfl
  | h1 l c ih =>
   intro N M hN hl
   obtain ⟨N, rfl⟩ : ∃ K, N = K + 1 := ⟨N - 1, by omega⟩
   rw [List.length_append, List.length_singleton] at hN hl
   have e1 : decide (((l ++ [c]).length : Int) > 0) = true := decide_eq_true (by rw [List.length_append, List.length_singleton]; omega)
   have e2 : (((l ++ [c]).length : Int) - 1) = (l.length : Int) := by rw [List.length_append, List.length_singleton]; omega
   have e3 : idx (l ++ [c]) (l.length : Int) = some c := idx_some (by simp)
   have e4 : slc (l ++ [c]) 0 (l.length : Int) = some l := by rw [slc_take (by simp)]; simp
   have e5 : ((c.toNat : Int) == 48) = zr c := by
    unfold zr
    by_cases h : c = 48
    ·subst h; rfl
    ·rw [show (c == 48) = false from beq_eq_false_iff_ne.2 h, beq_eq_false_iff_ne]
     intro e; exact h (UInt8.toNat_inj.1 (by show c.toNat = 48; omega))
   rw [rt_snoc]
   cases hz : zr c with
   | true =>
    have hb : calqueref07_Trim_b1 M (l ++ [c]) = some (.inl l) := by
     unfold calqueref07_Trim_b1
     simp only [e1, cond_true, e2, e3, Option.bind_some, e5, hz, e4]
    rw [iter_inl hb, ih N M (by omega) (by omega)]
    rfl
   | false =>
    have hb : calqueref07_Trim_b1 M (l ++ [c]) = some (.inr (l ++ [c])) := by
     unfold calqueref07_Trim_b1
     simp only [e1, cond_true, e2, e3, Option.bind_some, e5, hz, cond_false]
    rw [iter_inr hb]
    rfl
 intro s N hN hl
 unfold calqueref07_Trim
 rw [key s N N hN hl]
 rfl
def opd (s : List UInt8) (o : Int) : Int × Int :=
 if vld s then
  if o = 1 then (if (fr s).all zr then ((vl 0 (wh s) : Int), 0) else (0, 8))
  else if o = 2 then ((vl 0 (wh s) : Int), 0)
  else if o = 3 then (((fr s).length : Int), 0)
  else if o = 4 then (((rt (fr s)).length : Int), 0)
  else if o = 5 then ((vl 0 (fr s) : Int), 0)
  else if o = 6 then ((vl 0 (rt (fr s)) : Int), 0)
  else (0, 1)
 else (0, 1)
theorem vld_facts {s : List UInt8} (h : vld s = true) : (wh s).length ≤ 15 ∧ (wh s).all dgt = true ∧ (fr s).length ≤ 6 ∧ (fr s).all dgt = true := by
 unfold vld at h
 simp only [Bool.and_eq_true, Bool.not_eq_true', decide_eq_false_iff_not] at h
 obtain ⟨_, h2, h3, _, _, h4, h5, _⟩ := h
 exact ⟨by omega, h3, by omega, h5⟩
theorem beq_op (o k : Int) : (o == k) = decide (o = k) := by by_cases h : o = k <;> simp [h]
theorem prog_Operand_eq {N : Nat} {s : List UInt8} (hs : s.length ≤ 1000) (o : Int) : decimal_Operand N s o = some (opd s o) := by
 unfold decimal_Operand opd
 rw [decimal_split_eq hs]
 simp only [Option.bind_some]
 cases hv : vld s with
 | false => rfl
 | true =>
  obtain ⟨h1, h2, h3, h4⟩ := vld_facts hv
  have et : strings_TrimRight N (fr s) [48] = some (rt (fr s)) := by unfold strings_TrimRight; rw [if_pos ⟨by decide, by decide⟩]; rfl
  have er : (rt (fr s) != []) = !((fr s).all zr) := by
   have := rt_nil (fr s)
   cases ha : (fr s).all zr with
   | true => rw [this.2 ha]; rfl
   | false =>
    have : rt (fr s) ≠ [] := fun e => by rw [this.1 e] at ha; cases ha
    simpa using this
  simp only [Bool.not_true, cond_false, et, Option.bind_some, er, decimal_value_eq h1 h2, decimal_value_eq (by omega : (fr s).length ≤ 15) h4, decimal_value_eq (by have := rt_len (fr s); omega : (rt (fr s)).length ≤ 15) (rt_all _ h4), beq_op, if_true, Bool.cond_decide]
  cases (fr s).all zr <;> simp only [Bool.not_true, Bool.not_false, cond_true, cond_false, if_true, Bool.false_eq_true, if_false] <;> repeat' split
  all_goals first | rfl | contradiction
theorem ref_Operand_eq {N : Nat} {s : List UInt8} (hs : s.length ≤ 1000) (hN : 3000 ≤ N) (o : Int) : calqueref07_Operand N s o = some (opd s o) := by
 unfold calqueref07_Operand opd
 rw [ref_split_eq hs hN]
 simp only [Option.bind_some]
 cases hv : vld s with
 | false => rfl
 | true =>
  obtain ⟨h1, h2, h3, h4⟩ := vld_facts hv
  have hr := rt_len (fr s)
  simp only [Bool.not_true, cond_false, if_true, Option.bind_some, ref_Zero_eq (show (fr s).length < N by omega), ref_Value_eq (N := N) h1 h2 (by omega), ref_Value_eq (N := N) (by omega : (fr s).length ≤ 15) h4 (by omega), ref_Trim_eq (show (fr s).length < N by omega) (by omega),
   ref_Value_eq (N := N) (by omega : (rt (fr s)).length ≤ 15) (rt_all _ h4) (by omega), beq_op, Bool.cond_decide]
  cases (fr s).all zr <;> simp only [Bool.not_true, Bool.not_false, cond_true, cond_false, if_true, Bool.false_eq_true, if_false] <;> repeat' split
  all_goals first | rfl | contradiction
theorem mem_sum {α : Type} {f : α → Nat} : ∀ {l : List α} {x : α}, x ∈ l → f x ≤ (l.map f).sum
 | [], _, h => by cases h
 | y :: l, x, h => by
  rw [List.map_cons, List.sum_cons]
  rcases List.mem_cons.1 h with rfl | h
  ·omega
  ·have := mem_sum (f := f) h; omega
abbrev Cnd := List (List Relation)
def sz (c : Cnd) : Nat := c.length + (c.map fun l => l.length + (l.map fun r => r.Spans.length).sum).sum
structure Sz (N : Nat) (c : Cnd) : Prop where
 n : 3000 ≤ N
 len : c.length < N
 lens : ∀ l ∈ c, l.length < N
 spans : ∀ l ∈ c, ∀ r ∈ l, r.Spans.length < N
theorem Sz.of {N : Nat} {c : Cnd} (h : sz c + 3000 ≤ N) : Sz N c := by
 unfold sz at h
 refine ⟨by omega, by omega, fun l hl => ?_, fun l hl r hr => ?_⟩
 ·have := mem_sum (f := fun l : List Relation => l.length + (l.map fun r => r.Spans.length).sum) hl
  try simp only at this
  omega
 ·have := mem_sum (f := fun l : List Relation => l.length + (l.map fun r => r.Spans.length).sum) hl
  have h2 := mem_sum (f := fun r : Relation => r.Spans.length) hr
  try simp only at this h2
  omega
def per (o m : Int) : Bool := if o = 1 ∨ o = 2 then ([2, 3, 4, 5, 6, 10, 20, 25, 50, 100] : List Int).contains m else if o = 5 ∨ o = 6 then decide (m = 10 ∨ m = 100) else false
def gr (o : Int) : Int := if o = 3 ∨ o = 4 then 6 else 100
def spn (o : Int) (s : Span) : Bool := decide (0 ≤ s.From) && (decide (s.From ≤ s.To) && decide (s.To ≤ gr o))
def prp (r : Relation) : Bool := decide (1 ≤ r.Operand) && (decide (r.Operand ≤ 6) && ((decide (r.Mod = 0) || per r.Operand r.Mod) && (decide (1 ≤ r.Spans.length) && (decide (r.Spans.length ≤ 4) && r.Spans.all (spn r.Operand)))))
theorem greatest_eq (N : Nat) (o : Int) : condition_greatest N o = some (gr o) := by
 unfold condition_greatest gr
 simp only [beq_op, Bool.cond_decide]
 repeat' split
 all_goals first | rfl | omega
theorem Bound_eq (N : Nat) (o : Int) : calqueref08_Bound N o = some (gr o) := greatest_eq N o
theorem slices_find {N : Nat} (l : List Int) (m : Int) (hN : l.length < N) : slices_Contains_int_int N l m = some (l.contains m) := by
 unfold slices_Contains_int_int slices_Index_int_int
 rw [iter_find l (fun x => m == x) (fun k x hk => ?_) ?_ N hN, find_any]
 ·simp only [Option.bind_some, find_ge]
  rw [List.contains_eq_any_beq]
 ·unfold slices_Index_int_int_b1
  simp only [dnlt, cond_false]
 ·unfold slices_Index_int_int_b1
  simp only [dltx hk, cond_true, idx_some hk, Option.bind_some]
  cases (m == x) <;> rfl
theorem permitted_eq {N : Nat} (hN : 3000 ≤ N) (o m : Int) : condition_permitted N o m = some (per o m) := by
 unfold condition_permitted per
 rw [slices_find _ _ (by simp; omega)]
 simp only [beq_op, Bool.cond_decide, Option.bind_some]
 by_cases h1 : o = 1
 ·simp [h1]
 ·by_cases h2 : o = 2
  ·simp [h2]
  ·by_cases h5 : o = 5
   ·subst h5; by_cases h : m = 10 <;> simp [h]
   ·by_cases h6 : o = 6
    ·subst h6; by_cases h : m = 10 <;> simp [h]
    ·simp [h1, h2, h5, h6]
theorem has_eq {N : Nat} (l : List Int) (m : Int) (hN : l.length < N) : calqueref08_has N l m = some (l.contains m) := by
 unfold calqueref08_has
 rw [iter_anyL (fun x => x == m) l (fun k x hk => ?_) ?_ N hN]
 ·have e : l.any (fun x => x == m) = l.contains m := by
   rw [List.contains_eq_any_beq]
   congr 1
   funext x
   rw [Bool.eq_iff_iff, beq_iff_eq, beq_iff_eq]; exact eq_comm
  rw [← e]
  cases l.any (fun x => x == m) <;> rfl
 ·unfold calqueref08_has_b1
  simp only [dnlt, cond_false]
 ·unfold calqueref08_has_b1
  simp only [dltx hk, cond_true, idx_some hk, Option.bind_some]
  cases (x == m) <;> rfl
theorem Mods_has {N : Nat} (hN : 3000 ≤ N) (o m : Int) : ((calqueref08_Mods N o).bind fun l => calqueref08_has N l m) = some (per o m) := by
 unfold calqueref08_Mods per
 simp only [beq_op, Bool.cond_decide]
 by_cases h1 : o = 1
 ·simp only [h1, if_true, Option.bind_some, decide_true, cond_true, true_or]; rw [has_eq _ _ (by simp; omega)]
 ·by_cases h2 : o = 2
  ·subst h2
   simp only [show ¬ (2 : Int) = 1 by decide, if_false, Option.bind_some, decide_true, cond_true, false_or, if_true]; rw [has_eq _ _ (by simp; omega)]
  ·by_cases h5 : o = 5
   ·subst h5
    simp only [show ¬ (5 : Int) = 1 by decide, show ¬ (5 : Int) = 2 by decide, or_self, if_false, decide_false, cond_false, Option.bind_some, decide_true, cond_true, true_or, if_true]; rw [has_eq _ _ (by simp; omega)]
    by_cases h : m = 10 <;> simp [h]
   ·by_cases h6 : o = 6
    ·subst h6
     simp only [show ¬ (6 : Int) = 1 by decide, show ¬ (6 : Int) = 2 by decide, show ¬ (6 : Int) = 5 by decide, or_self, if_false, decide_false, cond_false, Option.bind_some, decide_true, cond_true, false_or, if_true]; rw [has_eq _ _ (by simp; omega)]
     by_cases h : m = 10 <;> simp [h]
    ·simp only [h1, h2, h5, h6, or_self, if_false, decide_false, cond_false, Option.bind_some]
     rw [has_eq _ _ (by simp; omega)]
     simp
theorem span_loop {body : Int → Option (Int ⊕ (Unit ⊕ Bool))} (o : Int) (l : List Span) (h : ∀ (k : Nat) x, l[k]? = some x → body k = (bif decide (x.From < 0) then some (.inr (.inr false)) else bif decide (x.From > x.To) then some (.inr (.inr false)) else (some (gr o)).bind fun r => bif decide (x.To > r) then some (.inr (.inr false)) else some (.inl ((k : Int) + 1)))) (h2 : body l.length = some (.inr (.inl ()))) {N : Nat} (hN : l.length < N) :
  ((iter body N 0).bind fun o33 => Sum.elim (fun _ => some true) (fun o => some o) o33) = some (l.all (spn o)) := by
 rw [iter_allL (spn o) l (fun k x hk => ?_) h2 N hN]
 ·cases l.all (spn o) <;> rfl
 ·rw [h k x hk]
  unfold spn
  simp only [Option.bind_some]
  by_cases a : x.From < 0
  ·simp [a, show ¬ 0 ≤ x.From by omega]
  ·by_cases b : x.From > x.To
   ·simp [a, b, show ¬ x.From ≤ x.To by omega]
   ·by_cases c : x.To > gr o
    ·simp [a, b, c, show ¬ x.To ≤ gr o by omega]
    ·simp [a, b, c, show 0 ≤ x.From by omega, show x.From ≤ x.To by omega, show x.To ≤ gr o by omega]
theorem proper_eq {N : Nat} (hN : 3000 ≤ N) {r : Relation} (hs : r.Spans.length < N) : condition_proper N r = some (prp r) := by
 have s1 : ((iter (fun s => condition_proper_b1 N r s) N 0).bind fun o33 => Sum.elim (fun _ => some true) (fun o => some o) o33) = some (r.Spans.all (spn r.Operand)) := by
  refine span_loop r.Operand r.Spans (fun k x hk => ?_) ?_ hs
  ·unfold condition_proper_b1
   simp only [dltx hk, cond_true, idx_some hk, Option.bind_some, greatest_eq]
  ·unfold condition_proper_b1
   simp only [dnlt, cond_false]
 have s2 : ((iter (fun s => condition_proper_b2 N r s) N 0).bind fun o33 => Sum.elim (fun _ => some true) (fun o => some o) o33) = some (r.Spans.all (spn r.Operand)) := s1
 unfold condition_proper prp
 rw [permitted_eq hN]
 simp only [Option.bind_some, s1, s2]
 by_cases h1 : r.Operand < 1
 ·simp [h1, show ¬ 1 ≤ r.Operand by omega]
 ·by_cases h2 : r.Operand > 6
  ·simp [h1, h2, show 1 ≤ r.Operand by omega, show ¬ r.Operand ≤ 6 by omega]
  ·simp only [decide_eq_false h1, decide_eq_false h2, cond_false, decide_eq_true (show 1 ≤ r.Operand by omega), decide_eq_true (show r.Operand ≤ 6 by omega), Bool.true_and]
   by_cases h4 : (r.Spans.length : Int) < 1
   ·by_cases hm : r.Mod = 0
    ·simp [hm, h4, show ¬ 1 ≤ r.Spans.length by omega]
    ·cases per r.Operand r.Mod <;> simp [show (r.Mod != 0) = true by simp [hm], hm, h4, show ¬ 1 ≤ r.Spans.length by omega]
   ·by_cases h5 : (r.Spans.length : Int) > 4
    ·by_cases hm : r.Mod = 0
     ·simp [hm, h4, h5, show ¬ r.Spans.length ≤ 4 by omega]
     ·cases per r.Operand r.Mod <;> simp [show (r.Mod != 0) = true by simp [hm], hm, h4, h5, show ¬ r.Spans.length ≤ 4 by omega]
    ·by_cases hm : r.Mod = 0
     ·simp [hm, h4, h5, show 1 ≤ r.Spans.length by omega, show r.Spans.length ≤ 4 by omega]
     ·cases per r.Operand r.Mod <;> simp [show (r.Mod != 0) = true by simp [hm], hm, h4, h5, show 1 ≤ r.Spans.length by omega, show r.Spans.length ≤ 4 by omega]
theorem ref_proper_eq {N : Nat} (hN : 3000 ≤ N) {r : Relation} (hs : r.Spans.length < N) : calqueref08_proper N r = some (prp r) := by
 have s1 : ((iter (fun s => calqueref08_proper_b1 N r s) N 0).bind fun o33 => Sum.elim (fun _ => some true) (fun o => some o) o33) = some (r.Spans.all (spn r.Operand)) := by
  refine span_loop r.Operand r.Spans (fun k x hk => ?_) ?_ hs
  ·unfold calqueref08_proper_b1
   simp only [dltx hk, cond_true, idx_some hk, Option.bind_some, Bound_eq]
  ·unfold calqueref08_proper_b1
   simp only [dnlt, cond_false]
 have hm0 := Mods_has hN r.Operand r.Mod
 have hm1 : ∀ (f : Bool → Option Bool), ((calqueref08_Mods N r.Operand).bind fun l => (calqueref08_has N l r.Mod).bind f) = f (per r.Operand r.Mod) := fun f => by
  rw [← Option.bind_assoc, hm0]; rfl
 unfold calqueref08_proper prp
 rw [hm1]
 simp only [s1]
 by_cases h1 : r.Operand < 1
 ·simp [h1, show ¬ 1 ≤ r.Operand by omega]
 ·by_cases h2 : r.Operand > 6
  ·simp [h1, h2, show 1 ≤ r.Operand by omega, show ¬ r.Operand ≤ 6 by omega]
  ·simp only [decide_eq_false h1, decide_eq_false h2, cond_false, decide_eq_true (show 1 ≤ r.Operand by omega), decide_eq_true (show r.Operand ≤ 6 by omega), Bool.true_and]
   by_cases h4 : (r.Spans.length : Int) < 1
   ·by_cases hm : r.Mod = 0
    ·simp [hm, h4, show ¬ 1 ≤ r.Spans.length by omega]
    ·cases per r.Operand r.Mod <;> simp [show (r.Mod != 0) = true by simp [hm], hm, h4, show ¬ 1 ≤ r.Spans.length by omega]
   ·by_cases h5 : (r.Spans.length : Int) > 4
    ·by_cases hm : r.Mod = 0
     ·simp [hm, h4, h5, show ¬ r.Spans.length ≤ 4 by omega]
     ·cases per r.Operand r.Mod <;> simp [show (r.Mod != 0) = true by simp [hm], hm, h4, h5, show ¬ r.Spans.length ≤ 4 by omega]
    ·by_cases hm : r.Mod = 0
     ·simp [hm, h4, h5, show 1 ≤ r.Spans.length by omega, show r.Spans.length ≤ 4 by omega]
     ·cases per r.Operand r.Mod <;> simp [show (r.Mod != 0) = true by simp [hm], hm, h4, h5, show 1 ≤ r.Spans.length by omega, show r.Spans.length ≤ 4 by omega]
def tot (c : Cnd) : Int := (c.map fun l => (l.length : Int)).sum
def fine (l : List Relation) : Bool := !(l.length == 0) && l.all prp
def vd (c : Cnd) : Bool := decide (0 < c.length) && (c.all fine && decide (IntKind.wrap .i64 (tot c) ≤ 6))
theorem wrap_wrap (a b : Int) : IntKind.wrap .i64 (IntKind.wrap .i64 a + b) = IntKind.wrap .i64 (a + b) := by
 simp only [IntKind.wrap, IntKind.bits, IntKind.signed]
 simp
 repeat' split
 all_goals omega
def fV (n : Int) (l : List Relation) : Int ⊕ (Int ⊕ Bool) := if fine l then .inl (IntKind.wrap .i64 (n + l.length)) else .inr (.inr false)
theorem run_fV : ∀ (c : Cnd) (n : Int), run fV (fun n => .inl n) (IntKind.wrap .i64 n) c = if c.all fine then .inl (IntKind.wrap .i64 (n + tot c)) else .inr false
 | [], n => by simp [run, tot]
 | l :: c, n => by
  rw [run]
  cases h : fine l with
  | false => rw [show fV (IntKind.wrap .i64 n) l = .inr (.inr false) by unfold fV; rw [h]; rfl]; simp [h]
  | true =>
   rw [show fV (IntKind.wrap .i64 n) l = .inl (IntKind.wrap .i64 (n + l.length)) by unfold fV; rw [h, wrap_wrap]; rfl]
   simp only [List.all_cons, h, Bool.true_and]
   have ih := run_fV c (n + l.length)
   rw [ih]
   simp only [tot, List.map_cons, List.sum_cons, Int.add_assoc]
theorem vd_of (c : Cnd) : ((some (run fV (fun n => Sum.inl n) 0 c)).bind fun o3 => Sum.elim (fun o3 => bif decide ((c.length : Int) > 0) then some (decide (o3 ≤ (6 : Int))) else some false) (fun o3 => some o3) o3) = some (vd c) := by
 have := run_fV c 0
 rw [show IntKind.wrap .i64 (0 : Int) = 0 by decide] at this
 rw [this]
 unfold vd
 cases c.all fine with
 | false => simp
 | true =>
  simp only [if_true, Option.bind_some, Sum.elim_inl, Int.zero_add, Bool.true_and]
  by_cases h : 0 < c.length
  ·simp [h]
  ·have h' : ¬ (c.length : Int) > 0 := by omega
   rw [decide_eq_false h', decide_eq_false h]; rfl
theorem Valid_eq {N : Nat} {c : Cnd} (S : Sz N c) : condition_Valid N c = some (vd c) := by
 unfold condition_Valid
 rw [show ((0 : Int), (0 : Int)) = (fun n k => (n, k)) (0 : Int) (0 : Int) from rfl, iter_list' (body := fun s => condition_Valid_b1 N c s.1 s.2) (fun (n : Int) k => (n, k)) c fV (fun n => .inl n) (fun n k l hk => ?_) (fun n => ?_) N 0 S.len]
 ·exact vd_of c
 ·have hl := List.mem_of_getElem? hk
  show condition_Valid_b1 N c n k = _
  unfold condition_Valid_b1
  simp only [dltx hk, cond_true, idx_some hk, Option.bind_some]
  have hc : slices_ContainsFunc_api_Relation_api_Relation__57 N l = some (l.any fun r => !prp r) := by
   unfold slices_ContainsFunc_api_Relation_api_Relation__57 slices_IndexFunc_api_Relation_api_Relation__57
   rw [iter_find l (fun r => !prp r) (fun k r hk => ?_) ?_ N (S.lens l hl), find_any]
   ·simp only [Option.bind_some, find_ge]
   ·unfold slices_IndexFunc_api_Relation_api_Relation__57_b1
    simp only [dnlt, cond_false]
   ·unfold slices_IndexFunc_api_Relation_api_Relation__57_b1 condition_Valid_1
    simp only [dltx hk, cond_true, idx_some hk, Option.bind_some, proper_eq S.n (S.spans l hl r (List.mem_of_getElem? hk))]
    cases prp r <;> rfl
  rw [hc]
  unfold fV fine
  have e : (l.any fun r => !prp r) = !(l.all prp) := by
   rw [List.not_all_eq_any_not]
  rw [e]
  simp only [Option.bind_some]
  cases l with
  | nil => rfl
  | cons r l =>
   have : (((r :: l).length : Int) == 0) = false := by simp only [List.length_cons, beq_eq_false_iff_ne]; omega
   rw [this]
   cases (r :: l).all prp <;> rfl
 ·show condition_Valid_b1 N c n c.length = _
  unfold condition_Valid_b1
  simp only [dnlt, cond_false]
theorem ref_Valid_c {N : Nat} {c : Cnd} (S : Sz N c) : calqueref08_Valid N c = some (vd c) := by
 unfold calqueref08_Valid
 rw [show ((0 : Int), (0 : Int)) = (fun n k => (n, k)) (0 : Int) (0 : Int) from rfl, iter_list (body := fun s => calqueref08_Valid_b1 N c s.1 s.2) (fun (n : Int) k => (n, k)) c fV (fun n => .inl n) (fun _ n => InR .i64 n) (fun n k l hk hI => ?_) (fun n _ => ?_) N 0 S.len (show InR .i64 0 by decide)]
 ·exact vd_of c
 ·have hl := List.mem_of_getElem? hk
  constructor
  ·show calqueref08_Valid_b1 N c n k = _
   unfold calqueref08_Valid_b1
   simp only [dltx hk, cond_true, idx_some hk, Option.bind_some]
   have hrun : ∀ (xs : List Relation) (n : Int), run (σ := Int) (β := Int ⊕ Bool) (fun n r => if prp r then .inl (IntKind.wrap .i64 (n + 1)) else .inr (.inr false)) (fun n => .inl n) (IntKind.wrap .i64 n) xs = if xs.all prp then .inl (IntKind.wrap .i64 (n + xs.length)) else .inr false := by
    intro xs
    induction xs with
    | nil => intro n; simp [run]
    | cons r xs ih =>
     intro n
     unfold run
     cases h : prp r with
     | false => simp [h]
     | true =>
      simp only [if_true, wrap_wrap, List.all_cons, h, Bool.true_and]
      rw [ih (n + 1)]
      simp only [List.length_cons]
      congr 3
      omega
   have hin : iter (fun s => calqueref08_Valid_b2 N c k s.1 s.2) N (n, 0) = some (if l.all prp then .inl (IntKind.wrap .i64 (n + l.length)) else .inr false) := by
    have h := iter_list' (body := fun s : Int × Int => calqueref08_Valid_b2 N c k s.1 s.2) (fun (n : Int) k => (n, k)) l (fun n r => if prp r then .inl (IntKind.wrap .i64 (n + 1)) else .inr (.inr false)) (fun n => .inl n) (fun n j r hj => ?_) (fun n => ?_) N n (S.lens l hl)
    ·rw [show ((n, (0 : Int)) : Int × Int) = (fun n k => (n, k)) n (0 : Int) from rfl, h]
     have := hrun l n
     rw [wrap_of hI] at this
     rw [this]
    ·show calqueref08_Valid_b2 N c k n j = _
     unfold calqueref08_Valid_b2
     simp only [idx_some hk, Option.bind_some, dltx hj, cond_true, idx_some hj, ref_proper_eq S.n (S.spans l hl r (List.mem_of_getElem? hj))]
     cases prp r <;> rfl
    ·show calqueref08_Valid_b2 N c k n l.length = _
     unfold calqueref08_Valid_b2
     simp only [idx_some hk, Option.bind_some, dnlt, cond_false]
   rw [hin]
   unfold fV fine
   cases l with
   | nil => rfl
   | cons r l =>
    have : (((r :: l).length : Int) == 0) = false := by simp only [List.length_cons, beq_eq_false_iff_ne]; omega
    rw [this]
    cases (r :: l).all prp <;> rfl
  ·intro n' h
   unfold fV at h
   split at h
   ·cases h; exact InR.wrap _ _
   ·cases h
 ·show calqueref08_Valid_b1 N c n c.length = _
  unfold calqueref08_Valid_b1
  simp only [dnlt, cond_false]
def ins (l : List Span) (n : Int) : Bool := l.any fun s => decide (s.From ≤ n) && decide (n ≤ s.To)
def red (r : Relation) (n : Int) : Int := if r.Mod = 0 then n else n.tmod r.Mod
def hold (s : List UInt8) (r : Relation) : Bool := if (opd s r.Operand).2 = 0 then (ins r.Spans (red r (opd s r.Operand).1)) != r.Not else r.Not
def hd (s : List UInt8) (c : Cnd) : Bool := c.any fun l => l.all (hold s)
theorem in_eq {N : Nat} {l : List Span} {n : Int} (hN : l.length < N) : condition_in N l n = some (ins l n) := by
 unfold condition_in slices_ContainsFunc_api_Span_api_Span__108 slices_IndexFunc_api_Span_api_Span__108
 rw [iter_find l (fun s => decide (s.From ≤ n) && decide (n ≤ s.To)) (fun k s hk => ?_) ?_ N hN, find_any]
 ·simp only [Option.bind_some, find_ge]; rfl
 ·unfold slices_IndexFunc_api_Span_api_Span__108_b1
  simp only [dnlt, cond_false]
 ·unfold slices_IndexFunc_api_Span_api_Span__108_b1 condition_in_1
  simp only [dltx hk, cond_true, idx_some hk, Option.bind_some]
  by_cases h1 : s.From ≤ n
  ·by_cases h2 : n ≤ s.To <;> simp [h1, h2]
  ·simp [h1]
theorem Inside_eq {N : Nat} {l : List Span} {n : Int} (hN : l.length < N) : calqueref08_Inside N l n = some (ins l n) := by
 unfold calqueref08_Inside
 rw [iter_anyL (fun s => decide (s.From ≤ n) && decide (n ≤ s.To)) l (fun k s hk => ?_) ?_ N hN]
 ·unfold ins; cases l.any (fun s => decide (s.From ≤ n) && decide (n ≤ s.To)) <;> rfl
 ·unfold calqueref08_Inside_b1
  simp only [dnlt, cond_false]
 ·unfold calqueref08_Inside_b1
  simp only [dltx hk, cond_true, idx_some hk, Option.bind_some]
  by_cases h1 : s.From ≤ n
  ·by_cases h2 : n ≤ s.To <;> simp [h1, h2]
  ·simp [h1]
theorem holds_eq {N : Nat} {r : Relation} {s : List UInt8} (hs : s.length ≤ 1000) (hN : r.Spans.length < N) : condition_holds N r s = some (hold s r) := by
 unfold condition_holds hold
 rw [prog_Operand_eq hs]
 simp only [Option.bind_some]
 by_cases h : (opd s r.Operand).2 = 0
 ·rw [if_pos h, show ((opd s r.Operand).2 != 0) = false by simp [h]]
  simp only [cond_false]
  by_cases hm : r.Mod = 0
  ·simp only [hm, show ((0 : Int) != 0) = false from rfl, cond_false, Option.bind_some, in_eq hN, red, if_true]
  ·simp only [show (r.Mod != 0) = true by simp [hm], cond_true, rm, if_neg hm, Option.bind_some, in_eq hN, red]
 ·rw [if_neg h, show ((opd s r.Operand).2 != 0) = true by simp [h]]; rfl
theorem Relation_eq {N : Nat} {r : Relation} {s : List UInt8} (hs : s.length ≤ 1000) (h3 : 3000 ≤ N) (hN : r.Spans.length < N) : calqueref08_Relation N r s = some (hold s r) := by
 unfold calqueref08_Relation hold
 rw [ref_Operand_eq hs h3]
 simp only [Option.bind_some]
 by_cases h : (opd s r.Operand).2 = 0
 ·rw [if_pos h, show ((opd s r.Operand).2 != 0) = false by simp [h]]
  simp only [cond_false]
  by_cases hm : r.Mod = 0
  ·simp only [hm, show ((0 : Int) != 0) = false from rfl, cond_false, Option.bind_some, Inside_eq hN, red, if_true]
  ·simp only [show (r.Mod != 0) = true by simp [hm], cond_true, rm, if_neg hm, Option.bind_some, Inside_eq hN, red]
 ·rw [if_neg h, show ((opd s r.Operand).2 != 0) = true by simp [h]]; rfl
def hr (c : Cnd) (s : List UInt8) : Bool × Int := if vd c && vld s then (hd s c, 0) else (false, 1)
theorem Holds_eq {N : Nat} {c : Cnd} {s : List UInt8} (S : Sz N c) (hs : s.length ≤ 1000) : condition_Holds N c s = some (hr c s) := by
 unfold condition_Holds hr
 rw [Valid_eq S, decimal_Valid_eq hs]
 have hc : slices_ContainsFunc_api_Cond_api_Relation__50 N c s = some (hd s c) := by
  unfold slices_ContainsFunc_api_Cond_api_Relation__50 slices_IndexFunc_api_Cond_api_Relation__50
  rw [iter_find c (fun l => l.all (hold s)) (fun k l hk => ?_) ?_ N S.len, find_any]
  ·simp only [Option.bind_some, find_ge]; rfl
  ·unfold slices_IndexFunc_api_Cond_api_Relation__50_b1
   simp only [dnlt, cond_false]
  ·have hl := List.mem_of_getElem? hk
   unfold slices_IndexFunc_api_Cond_api_Relation__50_b1 condition_Holds_1 slices_ContainsFunc_api_Relation_api_Relation__52 slices_IndexFunc_api_Relation_api_Relation__52
   simp only [dltx hk, cond_true, idx_some hk, Option.bind_some]
   rw [iter_find l (fun r => !hold s r) (fun j r hj => ?_) ?_ N (S.lens l hl), find_any]
   ·simp only [Option.bind_some, find_ge]
    rw [show (l.any fun r => !hold s r) = !(l.all (hold s)) by rw [List.not_all_eq_any_not], Bool.not_not]
    cases l.all (hold s) <;> rfl
   ·unfold slices_IndexFunc_api_Relation_api_Relation__52_b1
    simp only [dnlt, cond_false]
   ·unfold slices_IndexFunc_api_Relation_api_Relation__52_b1 condition_Holds_1_1
    simp only [dltx hj, cond_true, idx_some hj, Option.bind_some, holds_eq hs (S.spans l hl r (List.mem_of_getElem? hj))]
    cases hold s r <;> rfl
 rw [hc]
 simp only [Option.bind_some]
 cases vd c <;> cases vld s <;> rfl
theorem ref_Holds_eq {N : Nat} {c : Cnd} {s : List UInt8} (S : Sz N c) (hs : s.length ≤ 1000) : calqueref08_Holds N c s = some (hr c s) := by
 unfold calqueref08_Holds hr
 rw [ref_Valid_c S, ref_Valid_eq hs S.n]
 have hc : iter (fun s_1 => calqueref08_Holds_b1 N c s s_1) N 0 = some (if hd s c then .inr (true, 0) else .inl ()) := by
  have e : ∀ xs : Cnd, run (σ := Unit) (β := Unit ⊕ (Bool × Int)) (fun _ l => if l.all (hold s) then .inr (.inr (true, 0)) else .inl ()) (fun _ => .inl ()) () xs = if hd s xs then .inr (true, 0) else .inl () := by
   intro xs
   induction xs with
   | nil => rfl
   | cons l xs ih =>
    unfold run
    unfold hd at ih ⊢
    cases h : l.all (hold s) with
    | true => simp [h]
    | false => simp only [Bool.false_eq_true, if_false, ih, List.any_cons, h, Bool.false_or]
  rw [← e c]
  refine iter_list' (σ := Unit) (fun _ k => k) c _ _ (fun _ k l hk => ?_) (fun _ => ?_) N () S.len
  ·have hl := List.mem_of_getElem? hk
   unfold calqueref08_Holds_b1
   have hrun : ∀ (xs : List Relation) (b : Bool), run (σ := Bool) (β := Bool) (fun b r => .inl (b && hold s r)) (fun b => b) b xs = (b && xs.all (hold s)) := by
    intro xs
    induction xs with
    | nil => intro b; simp [run]
    | cons r xs ih => intro b; unfold run; simp only [ih, List.all_cons, Bool.and_assoc]
   have hin : iter (fun s_1 => calqueref08_Holds_b2 N c s k s_1.1 s_1.2) N (true, 0) = some (l.all (hold s)) := by
    have h := iter_list' (body := fun s_1 : Bool × Int => calqueref08_Holds_b2 N c s k s_1.1 s_1.2) (fun (b : Bool) k => (b, k)) l (fun b r => .inl (b && hold s r)) (fun b => b) (fun b j r hj => ?_) (fun b => ?_) N true (S.lens l hl)
    ·rw [show ((true, (0 : Int)) : Bool × Int) = (fun b k => (b, k)) true (0 : Int) from rfl, h, hrun]; rfl
    ·show calqueref08_Holds_b2 N c s k b j = _
     unfold calqueref08_Holds_b2
     simp only [idx_some hk, Option.bind_some, dltx hj, cond_true, idx_some hj, Relation_eq hs S.n (S.spans l hl r (List.mem_of_getElem? hj))]
     cases b <;> rfl
    ·show calqueref08_Holds_b2 N c s k b l.length = _
     unfold calqueref08_Holds_b2
     simp only [idx_some hk, Option.bind_some, dnlt, cond_false]
   simp only [dltx hk, cond_true, hin, Option.bind_some]
   cases l.all (hold s) <;> rfl
  ·unfold calqueref08_Holds_b1
   simp only [dnlt, cond_false]
 rw [hc]
 simp only [Option.bind_some]
 cases vd c <;> cases vld s <;> cases hd s c <;> rfl
theorem Few_some {N : Nat} {c : Cnd} (S : Sz N c) : ∃ b, calqueref08_Few N c = some b := by
 unfold calqueref08_Few
 have hin : ∀ (n : Int) (k : Nat) l, c[k]? = some l → ∃ n', iter (fun s => calqueref08_Few_b2 N c k s.1 s.2) N (n, 0) = some n' := by
  intro n k l hk
  have h := iter_list' (body := fun s : Int × Int => calqueref08_Few_b2 N c k s.1 s.2) (fun (n : Int) k => (n, k)) l (fun n r => .inl (IntKind.wrap .i64 (n + (IntKind.wrap .i64 ((1 : Int) + (r.Spans.length : Int)))))) (fun n => n) (fun n j r hj => ?_) (fun n => ?_) N n (S.lens l (List.mem_of_getElem? hk))
  ·exact ⟨_, h⟩
  ·show calqueref08_Few_b2 N c k n j = _
   unfold calqueref08_Few_b2
   simp only [idx_some hk, Option.bind_some, dltx hj, cond_true, idx_some hj]
  ·show calqueref08_Few_b2 N c k n l.length = _
   unfold calqueref08_Few_b2
   simp only [idx_some hk, Option.bind_some, dnlt, cond_false]
 let g : Int → Nat → Int := fun n k => (iter (fun s => calqueref08_Few_b2 N c k s.1 s.2) N (n, 0)).getD 0
 have hg : ∀ (n : Int) (k : Nat) l, c[k]? = some l → iter (fun s => calqueref08_Few_b2 N c k s.1 s.2) N (n, 0) = some (g n k) := by
  intro n k l hk
  obtain ⟨n', h⟩ := hin n k l hk
  show _ = some ((iter _ N (n, 0)).getD 0)
  rw [h]; rfl
 have h := iter_list (body := fun s : Int × Int => calqueref08_Few_b1 N c s.1 s.2) (σ := Int × Nat) (fun n k => (n.1, k)) c (fun n _ => if g n.1 n.2 > 80 then .inr (.inr false) else .inl (g n.1 n.2, n.2 + 1)) (fun _ => .inl ()) (fun k n => n.2 = k) (fun n k l hk hI => ?_) (fun n _ => ?_) N (0, 0) S.len rfl
 ·rw [show ((0 : Int), (0 : Int)) = (fun (n : Int × Nat) (k : Int) => (n.1, k)) (0, 0) (0 : Int) from rfl, h]
  cases run _ _ ((0 : Int), (0 : Nat)) c with
  | inl _ => exact ⟨_, rfl⟩
  | inr b => exact ⟨_, rfl⟩
 ·subst hI
  constructor
  ·show calqueref08_Few_b1 N c n.1 n.2 = _
   unfold calqueref08_Few_b1
   simp only [dltx hk, cond_true, hg n.1 n.2 l hk, Option.bind_some]
   by_cases h : g n.1 n.2 > 80
   ·simp [h]
   ·simp [h]
  ·intro s' h
   split at h
   ·cases h
   ·cases h; rfl
 ·show calqueref08_Few_b1 N c n.1 c.length = _
  unfold calqueref08_Few_b1
  simp only [dnlt, cond_false]
def mkt (n : Bool) (w f : List UInt8) : List UInt8 := (if n && !(w.all zr && f.all zr) then [45] else []) ++ (w ++ if f = [] then [] else 46 :: f)
def Wh (w : List UInt8) : Prop := w.all dgt = true ∧ (w = [48] ∨ ∃ c t, w = c :: t ∧ c ≠ 48)
theorem vld_parts {s : List UInt8} (h : vld s = true) : Wh (wh s) ∧ (wh s).length ≤ 15 ∧ (fr s).all dgt = true ∧ (fr s).length ≤ 6 ∧ (pt s = true → fr s ≠ []) := by
 unfold vld at h
 simp only [Bool.and_eq_true, Bool.not_eq_true', decide_eq_false_iff_not, Bool.and_eq_false_imp, decide_eq_true_eq] at h
 obtain ⟨h1, h2, h3, h4, h5, h6, h7, _⟩ := h
 refine ⟨⟨h3, ?_⟩, by omega, h7, by omega, fun hp e => ?_⟩
 ·cases hw : wh s with
  | nil => rw [hw] at h1; simp at h1
  | cons c t =>
   by_cases hc : c = 48
   ·left
    cases t with
    | nil => rw [hc]
    | cons d t =>
     rw [hw] at h4
     have := h4 (by simp only [List.length_cons]; omega)
     subst hc
     exact Bool.noConfusion (show true = false from this)
   ·exact .inr ⟨c, t, rfl, hc⟩
 ·have := h5 hp
  rw [e] at this
  simp at this
theorem fnd_digits : ∀ (w r : List UInt8), w.all dgt = true → (r = [] ∨ ∃ t, r = 46 :: t) → fnd [46] (w ++ r) = w.length
 | [], r, _, hr => by
  rcases hr with rfl | ⟨t, rfl⟩ <;> rfl
 | c :: w, r, h, hr => by
  rw [List.all_cons, Bool.and_eq_true] at h
  have hc : c ≠ 46 := fun e => by rw [e] at h; exact absurd h.1 (by decide)
  rw [List.cons_append, fnd_cons, if_neg (by simp [List.isPrefixOf, Ne.symm hc]), fnd_digits w r h.2 hr]
  rfl
theorem parse_mkt {n : Bool} {w f : List UInt8} (hw : Wh w) (hf : f.all dgt = true) : neg (mkt n w f) = (n && !(w.all zr && f.all zr)) ∧ wh (mkt n w f) = w ∧ fr (mkt n w f) = f ∧ pt (mkt n w f) = decide (f ≠ []) := by
 have hne : w ≠ [] := by rcases hw.2 with rfl | ⟨c, t, rfl, _⟩ <;> simp
 have hneg : neg (mkt n w f) = (n && !(w.all zr && f.all zr)) := by
  unfold mkt
  cases (n && !(w.all zr && f.all zr)) with
  | true => rfl
  | false =>
   cases w with
   | nil => exact absurd rfl hne
   | cons c t =>
    have h := hw.1
    rw [List.all_cons, Bool.and_eq_true] at h
    have hc : c ≠ 45 := fun e => by rw [e] at h; exact absurd h.1 (by decide)
    simp [neg, List.isPrefixOf, Ne.symm hc]
 have hbod : bod (mkt n w f) = w ++ if f = [] then [] else 46 :: f := by
  unfold bod
  rw [hneg]
  unfold mkt
  cases (n && !(w.all zr && f.all zr)) <;> rfl
 have hfnd : fnd [46] (w ++ if f = [] then [] else 46 :: f) = w.length := by
  refine fnd_digits w _ hw.1 ?_
  split
  ·exact .inl rfl
  ·exact .inr ⟨f, rfl⟩
 have hpt : pt (mkt n w f) = decide (f ≠ []) := by
  unfold pt
  rw [hbod, hfnd]
  cases f with
  | nil => simp
  | cons a t => simp
 refine ⟨hneg, ?_, ?_, hpt⟩
 ·unfold wh
  rw [hbod, hfnd, List.take_left]
 ·unfold fr
  rw [hpt, hbod, hfnd]
  cases f with
  | nil => simp
  | cons a t =>
   rw [if_pos (by simp), if_neg (by simp), List.drop_append]
   simp
theorem vld_mkt {n : Bool} {w f : List UInt8} (hw : Wh w) (hw15 : w.length ≤ 15) (hf : f.all dgt = true) (hf6 : f.length ≤ 6) : vld (mkt n w f) = true := by
 obtain ⟨e1, e2, e3, e4⟩ := parse_mkt (n := n) hw hf
 unfold vld
 rw [e1, e2, e3, e4, hw.1, hf]
 have hl : 1 ≤ w.length := by rcases hw.2 with rfl | ⟨c, t, rfl, _⟩ <;> simp
 have h4 : (decide ((w.length : Int) > 1) && ((w.getD 0 0).toNat : Int) == 48) = false := by
  rcases hw.2 with rfl | ⟨c, t, rfl, hc⟩
  ·rfl
  ·have : (((c :: t).getD 0 0).toNat : Int) = c.toNat := rfl
   rw [this]
   have : ((c.toNat : Int) == 48) = false := by
    rw [beq_eq_false_iff_ne]; intro e
    exact hc (UInt8.toNat_inj.1 (by show c.toNat = 48; omega))
   rw [this, Bool.and_false]
 rw [h4, decide_eq_false (show ¬ ((w.length : Int) < 1) by omega), decide_eq_false (show ¬ ((w.length : Int) > 15) by omega), decide_eq_false (show ¬ ((f.length : Int) > 6) by omega)]
 have h5 : (decide (f ≠ []) && ((f.length : Int) == 0)) = false := by
  cases f with
  | nil => rfl
  | cons a t => simp; omega
 rw [h5]
 cases n <;> cases (w.all zr && f.all zr) <;> rfl
theorem vld_len {s : List UInt8} (h : vld s = true) : s.length ≤ 30 := by
 obtain ⟨_, p2, _, p4, _⟩ := vld_parts h
 have h1 : s.length ≤ (bod s).length + 1 := by
  unfold bod
  split
  ·rw [List.length_drop]; omega
  ·omega
 have h2 : (bod s).length ≤ (wh s).length + (fr s).length + 1 := by
  have := scan_le (fun l => ([46] : List UInt8).isPrefixOf l) (bod s)
  unfold wh fr pt fnd
  rw [List.length_take]
  split
  ·rw [List.length_drop]; omega
  ·rename_i h3
   have := of_decide_eq_false (Bool.eq_false_iff.2 h3)
   simp only [List.length_nil]; omega
 omega
theorem Few_len {N : Nat} {c : Cnd} (S : Sz N c) (h : calqueref08_Few N c = some true) : c.length ≤ 30 := by
 unfold calqueref08_Few at h
 cases ho : iter (fun s => calqueref08_Few_b1 N c s.1 s.2) N ((0 : Int), (0 : Int)) with
 | none => rw [ho] at h; cases h
 | some o =>
  rw [ho] at h
  simp only [Option.bind_some] at h
  cases o with
  | inl _ =>
   simp only [Sum.elim_inl, Option.some.injEq, decide_eq_true_eq] at h
   omega
  | inr b =>
   -- an early end says no
   have key : ∀ (N' : Nat) (s : Int × Int), iter (fun s => calqueref08_Few_b1 N c s.1 s.2) N' s = some (.inr b) → b = false := by
    intro N'
    induction N' with
    | zero => intro s h; cases h
    | succ N' ih =>
     intro s h
     rw [iter] at h
     cases hb : calqueref08_Few_b1 N c s.1 s.2 with
     | none => rw [hb] at h; cases h
     | some r =>
      rw [hb] at h
      cases r with
      | inl s' => exact ih s' h
      | inr x =>
       simp only [Option.some.injEq] at h
       subst h
       unfold calqueref08_Few_b1 at hb
       cases hd : decide (s.2 < (c.length : Int)) with
       | false => rw [hd] at hb; simp at hb
       | true =>
        rw [hd] at hb
        simp only [cond_true] at hb
        obtain ⟨o, _, hb⟩ := bnd hb
        cases hg : decide (o > 80) with
        | false => rw [hg] at hb; simp at hb
        | true => rw [hg] at hb; simp at hb; exact hb
   have := key N _ ho
   subst this
   simp at h
theorem vd_prp {c : Cnd} (h : vd c = true) : ∀ l ∈ c, ∀ r ∈ l, prp r = true := by
 unfold vd at h
 simp only [Bool.and_eq_true, decide_eq_true_eq] at h
 intro l hl r hr
 have := List.all_eq_true.1 h.2.1 l hl
 unfold fine at this
 rw [Bool.and_eq_true] at this
 exact List.all_eq_true.1 this.2 r hr
theorem app_some {α : Type} {xs ys : List α} (h : xs.length + ys.length ≤ 4294967296) : app xs ys = some (xs ++ ys) := by unfold app LIM; rw [if_pos h]
theorem opd_of {s t : List UInt8} (hs : vld s = true) (ht : vld t = true) (hw : wh t = wh s) (hf : fr t = fr s) (o : Int) : opd t o = opd s o := by
 unfold opd; rw [hs, ht, hw, hf]
theorem hd_of {s t : List UInt8} {c : Cnd} (h : ∀ l ∈ c, ∀ r ∈ l, opd t r.Operand = opd s r.Operand) : hd t c = hd s c := by
 unfold hd
 have : ∀ l ∈ c, l.all (hold t) = l.all (hold s) := by
  intro l hl
  rw [Bool.eq_iff_iff, List.all_eq_true, List.all_eq_true]
  have e : ∀ r ∈ l, hold t r = hold s r := fun r hr => by unfold hold; rw [h l hl r hr]
  exact ⟨fun k r hr => by rw [← e r hr]; exact k r hr, fun k r hr => by rw [e r hr]; exact k r hr⟩
 rw [Bool.eq_iff_iff, List.any_eq_true, List.any_eq_true]
 exact ⟨fun ⟨l, hl, k⟩ => ⟨l, hl, by rw [← this l hl]; exact k⟩, fun ⟨l, hl, k⟩ => ⟨l, hl, by rw [this l hl]; exact k⟩⟩
theorem ref_Text_eq {N : Nat} {n : Bool} {w f : List UInt8} (hw : w.length ≤ 1000) (hf : f.length ≤ 1000) (hN : 3000 ≤ N) : calqueref07_Text N (Number2.mk n w f) = some (mkt n w f) := by
 unfold calqueref07_Text mkt
 have ho : (bif f != [] then (cat [46] f).bind fun s7 => (cat w s7).bind fun s9 => some s9 else some w) = some (w ++ if f = [] then [] else 46 :: f) := by
  cases f with
  | nil => simp
  | cons a t =>
   rw [show ((a :: t : List UInt8) != []) = true from rfl, cond_true, cat_some (by simp only [List.length_cons, List.length_nil] at *; omega), Option.bind_some, cat_some (by simp only [List.length_append, List.length_cons, List.length_nil] at *; omega)]
   rfl
 rw [ho]
 simp only [Option.bind_some]
 rw [cat_some (by omega)]
 simp only [Option.bind_some]
 rw [ref_Zero_eq (by rw [List.length_append]; omega), List.all_append]
 have hc : cat [45] (w ++ if f = [] then [] else 46 :: f) = some (45 :: (w ++ if f = [] then [] else 46 :: f)) := by
  rw [cat_some (by split <;> simp only [List.length_append, List.length_cons, List.length_nil] <;> omega)]; rfl
 simp only [Option.bind_some, hc]
 cases n <;> cases (w.all zr && f.all zr) <;> rfl
end Go.Proofs.YtboacfcnmhnbdaaGreatDoor
