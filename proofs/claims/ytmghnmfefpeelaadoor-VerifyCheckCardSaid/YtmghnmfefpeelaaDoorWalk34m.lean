/- The walks of this part: the model's run of each function yields what the plain function says. Printed by gen8.py. -/
import Derived.Test.YtmghnmfefpeelaaDoorExt34m
import Derived.Test.YtmghnmfefpeelaaDoorWalk34a1
import Derived.Test.YtmghnmfefpeelaaDoorWalk34a2
import Derived.Test.YtmghnmfefpeelaaDoorChecked
import Derived.Test.YtmghnmfefpeelaaDoorShelf
set_option linter.unusedVariables false
namespace Go.Proofs.YtmghnmfefpeelaaDoor
open Go.X

theorem go_23 : goB Tryd.prog 23 = true := by kernel_rfl
theorem go_28 : goB Tryd.prog 28 = true := by kernel_rfl
theorem go_34 : goB Tryd.prog 34 = true := by kernel_rfl
theorem go_35 : goB Tryd.prog 35 = true := by kernel_rfl
theorem go_44 : goB Tryd.prog 44 = true := by kernel_rfl

def calqueref25_lower_R (u : World) (m0 : Mem) (S : Segs) (r : Bool) (a : Act) (w : World) : Prop :=
  Ok u m0 S w ∧ a.defers = [] ∧ RVs Tryd.prog a w [.t 2 (.bool r)]
set_option maxHeartbeats 4000000 in
set_option maxRecDepth 100000 in
theorem calqueref25_lower_w {u : World} {m0 : Mem} {S : Segs} {w : World} (N : Nat) (c_0 : Int) (rc_0 : InR .u8 c_0) {r : Bool} (hF : calqueref25_lower N c_0 = some r) (hG : Glob u) (ok : Ok u m0 S w) :
    Calls Tryd.prog 35 [Value.int .u8 c_0].toArray w fun e w' => (e = .returned (.bool r) ∧ Ok u m0 S w') := by
  have hb0 := ok.base
  have le_m0 := Mem.le.refl m0
  unfold calqueref25_lower at hF
  have fin : ∀ a w, calqueref25_lower_R u m0 S r a w → bodyPost Tryd.prog Tryd.f35 (fun e w' => (e = .returned (.bool r) ∧ Ok u m0 S w')) .ret a w := by
    intro a w h
    obtain ⟨ok, hd, hrv⟩ := h
    exact c_ret2 [.t 2 (.bool r)] hd rfl hrv ⟨rfl, ok⟩
  refine enter Tryd.func35 rfl rfl rfl fun a E => ?_
  refine wp_seq ?_
  refine c_region ?_
  refine l_val E ok (y_assign rfl) rfl rfl fun a E => ?_
  refine wpList_nil ?_
  refine t_norm ?_
  refine wp_seq ?_
  refine c_region ?_
  refine l_val E ok (y_move rfl) rfl rfl fun a E => ?_
  refine l_val E ok (y_geq rfl rfl) rfl rfl fun a E => ?_
  refine l_val E ok (y_move rfl) rfl rfl fun a E => ?_
  refine bsplit (decide (c_0 ≥ 97)) (fun hc1 => ?_) (fun hc1 => ?_)
  · replace hF := cond_t hc1 hF
    replace E := E.upd 5 hc1 rfl
    refine l_val E ok (y_move rfl) rfl rfl fun a E => ?_
    refine l_val E ok (y_leq rfl rfl) rfl rfl fun a E => ?_
    refine l_val E ok (y_pickT rfl rfl) rfl rfl fun a E => ?_
    refine l_val E ok (y_assign rfl) rfl rfl fun a E => ?_
    refine wpList_nil ?_
    refine t_norm ?_
    refine wp_ret ?_
    have hret : calqueref25_lower_R u m0 S (decide (c_0 ≤ 122)) a w := ⟨ok, E.d, ⟨rv_t E rfl, trivial⟩⟩
    obtain rfl := Option.some.inj hF
    exact fin _ _ hret
  replace hF := cond_f hc1 hF
  replace E := E.upd 5 hc1 rfl
  refine l_skip E rfl rfl fun a E => ?_
  refine l_skip E rfl rfl fun a E => ?_
  refine l_val E ok (y_pickF rfl rfl) rfl rfl fun a E => ?_
  refine l_val E ok (y_assign rfl) rfl rfl fun a E => ?_
  refine wpList_nil ?_
  refine t_norm ?_
  refine wp_ret ?_
  have hret : calqueref25_lower_R u m0 S false a w := ⟨ok, E.d, ⟨rv_t E rfl, trivial⟩⟩
  obtain rfl := Option.some.inj hF
  exact fin _ _ hret

def calqueref25_letter_R (u : World) (m0 : Mem) (S : Segs) (r : Bool) (a : Act) (w : World) : Prop :=
  Ok u m0 S w ∧ a.defers = [] ∧ RVs Tryd.prog a w [.t 2 (.bool r)]
set_option maxHeartbeats 4000000 in
set_option maxRecDepth 100000 in
theorem calqueref25_letter_w {u : World} {m0 : Mem} {S : Segs} {w : World} (N : Nat) (c_0 : Int) (rc_0 : InR .u8 c_0) {r : Bool} (hF : calqueref25_letter N c_0 = some r) (hG : Glob u) (ok : Ok u m0 S w) :
    Calls Tryd.prog 44 [Value.int .u8 c_0].toArray w fun e w' => (e = .returned (.bool r) ∧ Ok u m0 S w') := by
  have hb0 := ok.base
  have le_m0 := Mem.le.refl m0
  unfold calqueref25_letter at hF
  have fin : ∀ a w, calqueref25_letter_R u m0 S r a w → bodyPost Tryd.prog Tryd.f44 (fun e w' => (e = .returned (.bool r) ∧ Ok u m0 S w')) .ret a w := by
    intro a w h
    obtain ⟨ok, hd, hrv⟩ := h
    exact c_ret2 [.t 2 (.bool r)] hd rfl hrv ⟨rfl, ok⟩
  refine enter Tryd.func44 rfl rfl rfl fun a E => ?_
  refine wp_seq ?_
  refine c_region ?_
  refine l_val E ok (y_assign rfl) rfl rfl fun a E => ?_
  refine wpList_nil ?_
  refine t_norm ?_
  refine wp_seq ?_
  refine c_region ?_
  refine l_val E ok (y_move rfl) rfl rfl fun a E => ?_
  obtain ⟨r1, e2, hF⟩ := bnd hF
  refine l_call E go_35 rfl (calqueref25_lower_w N c_0 rc_0 e2 hG ok) rfl rfl ?_
  rintro _ w ⟨rfl, ok⟩
  refine ⟨_, rfl, fun a E => ?_⟩
  refine l_val E ok (y_move rfl) rfl rfl fun a E => ?_
  refine bsplit r1 (fun hc3 => ?_) (fun hc3 => ?_)
  · replace hF := cond_t hc3 hF
    replace E := E.upd 5 hc3 rfl
    refine l_skip E rfl rfl fun a E => ?_
    refine l_skip E rfl rfl fun a E => ?_
    refine l_skip E rfl rfl fun a E => ?_
    refine l_skip E rfl rfl fun a E => ?_
    refine l_skip E rfl rfl fun a E => ?_
    refine l_skip E rfl rfl fun a E => ?_
    refine l_val E ok (y_pickT rfl rfl) rfl rfl fun a E => ?_
    refine l_val E ok (y_assign rfl) rfl rfl fun a E => ?_
    refine wpList_nil ?_
    refine t_norm ?_
    refine wp_ret ?_
    have hret : calqueref25_letter_R u m0 S true a w := ⟨ok, E.d, ⟨rv_t E rfl, trivial⟩⟩
    obtain rfl := Option.some.inj hF
    exact fin _ _ hret
  replace hF := cond_f hc3 hF
  replace E := E.upd 5 hc3 rfl
  refine l_val E ok (y_move rfl) rfl rfl fun a E => ?_
  refine l_val E ok (y_geq rfl rfl) rfl rfl fun a E => ?_
  refine l_val E ok (y_move rfl) rfl rfl fun a E => ?_
  refine bsplit (decide (c_0 ≥ 65)) (fun hc4 => ?_) (fun hc4 => ?_)
  · replace hF := cond_t hc4 hF
    replace E := E.upd 8 hc4 rfl
    refine l_val E ok (y_move rfl) rfl rfl fun a E => ?_
    refine l_val E ok (y_leq rfl rfl) rfl rfl fun a E => ?_
    refine l_val E ok (y_pickT rfl rfl) rfl rfl fun a E => ?_
    refine l_val E ok (y_pickF rfl rfl) rfl rfl fun a E => ?_
    refine l_val E ok (y_assign rfl) rfl rfl fun a E => ?_
    refine wpList_nil ?_
    refine t_norm ?_
    refine wp_ret ?_
    have hret : calqueref25_letter_R u m0 S (decide (c_0 ≤ 90)) a w := ⟨ok, E.d, ⟨rv_t E rfl, trivial⟩⟩
    obtain rfl := Option.some.inj hF
    exact fin _ _ hret
  replace hF := cond_f hc4 hF
  replace E := E.upd 8 hc4 rfl
  refine l_skip E rfl rfl fun a E => ?_
  refine l_skip E rfl rfl fun a E => ?_
  refine l_val E ok (y_pickF rfl rfl) rfl rfl fun a E => ?_
  refine l_val E ok (y_pickF rfl rfl) rfl rfl fun a E => ?_
  refine l_val E ok (y_assign rfl) rfl rfl fun a E => ?_
  refine wpList_nil ?_
  refine t_norm ?_
  refine wp_ret ?_
  have hret : calqueref25_letter_R u m0 S false a w := ⟨ok, E.d, ⟨rv_t E rfl, trivial⟩⟩
  obtain rfl := Option.some.inj hF
  exact fin _ _ hret

def calqueref25_Inner_R (u : World) (m0 : Mem) (S : Segs) (r : Bool) (a : Act) (w : World) : Prop :=
  Ok u m0 S w ∧ a.defers = [] ∧ RVs Tryd.prog a w [.t 2 (.bool r)]
set_option maxHeartbeats 4000000 in
set_option maxRecDepth 100000 in
theorem calqueref25_Inner_w {u : World} {m0 : Mem} {S : Segs} {w : World} (N : Nat) (c_0 : Int) (rc_0 : InR .u8 c_0) {r : Bool} (hF : calqueref25_Inner N c_0 = some r) (hG : Glob u) (ok : Ok u m0 S w) :
    Calls Tryd.prog 34 [Value.int .u8 c_0].toArray w fun e w' => (e = .returned (.bool r) ∧ Ok u m0 S w') := by
  have hb0 := ok.base
  have le_m0 := Mem.le.refl m0
  unfold calqueref25_Inner at hF
  have fin : ∀ a w, calqueref25_Inner_R u m0 S r a w → bodyPost Tryd.prog Tryd.f34 (fun e w' => (e = .returned (.bool r) ∧ Ok u m0 S w')) .ret a w := by
    intro a w h
    obtain ⟨ok, hd, hrv⟩ := h
    exact c_ret2 [.t 2 (.bool r)] hd rfl hrv ⟨rfl, ok⟩
  refine enter Tryd.func34 rfl rfl rfl fun a E => ?_
  refine wp_seq ?_
  refine c_region ?_
  refine l_val E ok (y_assign rfl) rfl rfl fun a E => ?_
  refine wpList_nil ?_
  refine t_norm ?_
  refine wp_seq ?_
  refine c_region ?_
  refine l_val E ok (y_move rfl) rfl rfl fun a E => ?_
  obtain ⟨r1, e2, hF⟩ := bnd hF
  refine l_call E go_44 rfl (calqueref25_letter_w N c_0 rc_0 e2 hG ok) rfl rfl ?_
  rintro _ w ⟨rfl, ok⟩
  refine ⟨_, rfl, fun a E => ?_⟩
  refine l_val E ok (y_move rfl) rfl rfl fun a E => ?_
  refine bsplit r1 (fun hc3 => ?_) (fun hc3 => ?_)
  · replace hF := cond_t hc3 hF
    replace E := E.upd 5 hc3 rfl
    refine l_skip E rfl rfl fun a E => ?_
    refine l_skip E rfl rfl fun a E => ?_
    refine l_skip E rfl rfl fun a E => ?_
    refine l_skip E rfl rfl fun a E => ?_
    refine l_skip E rfl rfl fun a E => ?_
    refine l_skip E rfl rfl fun a E => ?_
    refine l_val E ok (y_pickT rfl rfl) rfl rfl fun a E => ?_
    refine l_val E ok (y_move rfl) rfl rfl fun a E => ?_
    refine l_skip E rfl rfl fun a E => ?_
    refine l_skip E rfl rfl fun a E => ?_
    refine l_val E ok (y_pickT rfl rfl) rfl rfl fun a E => ?_
    refine l_val E ok (y_move rfl) rfl rfl fun a E => ?_
    refine l_skip E rfl rfl fun a E => ?_
    refine l_skip E rfl rfl fun a E => ?_
    refine l_val E ok (y_pickT rfl rfl) rfl rfl fun a E => ?_
    refine l_val E ok (y_assign rfl) rfl rfl fun a E => ?_
    refine wpList_nil ?_
    refine t_norm ?_
    refine wp_ret ?_
    have hret : calqueref25_Inner_R u m0 S true a w := ⟨ok, E.d, ⟨rv_t E rfl, trivial⟩⟩
    obtain rfl := Option.some.inj hF
    exact fin _ _ hret
  replace hF := cond_f hc3 hF
  replace E := E.upd 5 hc3 rfl
  refine l_val E ok (y_move rfl) rfl rfl fun a E => ?_
  refine l_val E ok (y_geq rfl rfl) rfl rfl fun a E => ?_
  refine l_val E ok (y_move rfl) rfl rfl fun a E => ?_
  refine bsplit (decide (c_0 ≥ 48)) (fun hc4 => ?_) (fun hc4 => ?_)
  rotate_left
  · replace hF := cond_f hc4 hF
    replace E := E.upd 8 hc4 rfl
    refine l_skip E rfl rfl fun a E => ?_
    refine l_skip E rfl rfl fun a E => ?_
    refine l_val E ok (y_pickF rfl rfl) rfl rfl fun a E => ?_
    refine l_val E ok (y_pickF rfl rfl) rfl rfl fun a E => ?_
    refine l_val E ok (y_move rfl) rfl rfl fun a E => ?_
    refine l_val E ok (y_move rfl) rfl rfl fun a E => ?_
    refine l_val E ok (y_eql rfl rfl) rfl rfl fun a E => ?_
    refine l_val E ok (y_pickF rfl rfl) rfl rfl fun a E => ?_
    refine l_val E ok (y_move rfl) rfl rfl fun a E => ?_
    refine bsplit (c_0 == 95) (fun hc7 => ?_) (fun hc7 => ?_)
    · replace hF := cond_t hc7 hF
      replace E := E.upd 17 hc7 rfl
      refine l_skip E rfl rfl fun a E => ?_
      refine l_skip E rfl rfl fun a E => ?_
      refine l_val E ok (y_pickT rfl rfl) rfl rfl fun a E => ?_
      refine l_val E ok (y_assign rfl) rfl rfl fun a E => ?_
      refine wpList_nil ?_
      refine t_norm ?_
      refine wp_ret ?_
      have hret : calqueref25_Inner_R u m0 S true a w := ⟨ok, E.d, ⟨rv_t E rfl, trivial⟩⟩
      obtain rfl := Option.some.inj hF
      exact fin _ _ hret
    replace hF := cond_f hc7 hF
    replace E := E.upd 17 hc7 rfl
    refine l_val E ok (y_move rfl) rfl rfl fun a E => ?_
    refine l_val E ok (y_eql rfl rfl) rfl rfl fun a E => ?_
    refine l_val E ok (y_pickF rfl rfl) rfl rfl fun a E => ?_
    refine l_val E ok (y_assign rfl) rfl rfl fun a E => ?_
    refine wpList_nil ?_
    refine t_norm ?_
    refine wp_ret ?_
    have hret : calqueref25_Inner_R u m0 S (c_0 == 45) a w := ⟨ok, E.d, ⟨rv_t E rfl, trivial⟩⟩
    obtain rfl := Option.some.inj hF
    exact fin _ _ hret
  replace hF := cond_t hc4 hF
  replace E := E.upd 8 hc4 rfl
  refine l_val E ok (y_move rfl) rfl rfl fun a E => ?_
  refine l_val E ok (y_leq rfl rfl) rfl rfl fun a E => ?_
  refine l_val E ok (y_pickT rfl rfl) rfl rfl fun a E => ?_
  refine l_val E ok (y_pickF rfl rfl) rfl rfl fun a E => ?_
  refine l_val E ok (y_move rfl) rfl rfl fun a E => ?_
  refine bsplit (decide (c_0 ≤ 57)) (fun hc5 => ?_) (fun hc5 => ?_)
  · replace hF := cond_t hc5 hF
    replace E := E.upd 13 hc5 rfl
    refine l_skip E rfl rfl fun a E => ?_
    refine l_skip E rfl rfl fun a E => ?_
    refine l_val E ok (y_pickT rfl rfl) rfl rfl fun a E => ?_
    refine l_val E ok (y_move rfl) rfl rfl fun a E => ?_
    refine l_skip E rfl rfl fun a E => ?_
    refine l_skip E rfl rfl fun a E => ?_
    refine l_val E ok (y_pickT rfl rfl) rfl rfl fun a E => ?_
    refine l_val E ok (y_assign rfl) rfl rfl fun a E => ?_
    refine wpList_nil ?_
    refine t_norm ?_
    refine wp_ret ?_
    have hret : calqueref25_Inner_R u m0 S true a w := ⟨ok, E.d, ⟨rv_t E rfl, trivial⟩⟩
    obtain rfl := Option.some.inj hF
    exact fin _ _ hret
  replace hF := cond_f hc5 hF
  replace E := E.upd 13 hc5 rfl
  refine l_val E ok (y_move rfl) rfl rfl fun a E => ?_
  refine l_val E ok (y_eql rfl rfl) rfl rfl fun a E => ?_
  refine l_val E ok (y_pickF rfl rfl) rfl rfl fun a E => ?_
  refine l_val E ok (y_move rfl) rfl rfl fun a E => ?_
  refine bsplit (c_0 == 95) (fun hc6 => ?_) (fun hc6 => ?_)
  · replace hF := cond_t hc6 hF
    replace E := E.upd 17 hc6 rfl
    refine l_skip E rfl rfl fun a E => ?_
    refine l_skip E rfl rfl fun a E => ?_
    refine l_val E ok (y_pickT rfl rfl) rfl rfl fun a E => ?_
    refine l_val E ok (y_assign rfl) rfl rfl fun a E => ?_
    refine wpList_nil ?_
    refine t_norm ?_
    refine wp_ret ?_
    have hret : calqueref25_Inner_R u m0 S true a w := ⟨ok, E.d, ⟨rv_t E rfl, trivial⟩⟩
    obtain rfl := Option.some.inj hF
    exact fin _ _ hret
  replace hF := cond_f hc6 hF
  replace E := E.upd 17 hc6 rfl
  refine l_val E ok (y_move rfl) rfl rfl fun a E => ?_
  refine l_val E ok (y_eql rfl rfl) rfl rfl fun a E => ?_
  refine l_val E ok (y_pickF rfl rfl) rfl rfl fun a E => ?_
  refine l_val E ok (y_assign rfl) rfl rfl fun a E => ?_
  refine wpList_nil ?_
  refine t_norm ?_
  refine wp_ret ?_
  have hret : calqueref25_Inner_R u m0 S (c_0 == 45) a w := ⟨ok, E.d, ⟨rv_t E rfl, trivial⟩⟩
  obtain rfl := Option.some.inj hF
  exact fin _ _ hret

def calqueref25_Name_R (u : World) (m0 : Mem) (S : Segs) (r : Bool) (a : Act) (w : World) : Prop :=
  Ok u m0 S w ∧ a.defers = [] ∧ RVs Tryd.prog a w [.t 2 (.bool r)]
set_option maxHeartbeats 4000000 in
set_option maxRecDepth 100000 in
theorem calqueref25_Name_w {u : World} {m0 : Mem} {S : Segs} {w : World} (N : Nat) (s_0 : List UInt8) (ls_0 : s_0.length ≤ LIMS) {r : Bool} (hF : calqueref25_Name N s_0 = some r) (hG : Glob u) (ok : Ok u m0 S w) :
    Calls Tryd.prog 23 [Value.string (bs s_0)].toArray w fun e w' => (e = .returned (.bool r) ∧ Ok u m0 S w') := by
  have hb0 := ok.base
  have le_m0 := Mem.le.refl m0
  unfold calqueref25_Name at hF
  have fin : ∀ a w, calqueref25_Name_R u m0 S r a w → bodyPost Tryd.prog Tryd.f23 (fun e w' => (e = .returned (.bool r) ∧ Ok u m0 S w')) .ret a w := by
    intro a w h
    obtain ⟨ok, hd, hrv⟩ := h
    exact c_ret2 [.t 2 (.bool r)] hd rfl hrv ⟨rfl, ok⟩
  refine enter Tryd.func23 rfl rfl rfl fun a E => ?_
  refine wp_seq ?_
  refine c_region ?_
  refine l_val E ok (y_assign rfl) rfl rfl fun a E => ?_
  refine wpList_nil ?_
  refine t_norm ?_
  refine wp_seq ?_
  refine wp_seq ?_
  refine c_region ?_
  refine l_val E ok (y_assign rfl) rfl rfl fun a E => ?_
  refine wpList_nil ?_
  refine t_norm ?_
  refine wp_block ?_
  obtain ⟨o2, hL, hF⟩ := bnd hF
  refine c_loop _ (fun (s : Int) a w => Ok u m0 (S) w ∧ Env 28 a [(0, (Value.string (bs s_0))), (3, (Value.int .i64 s))] ∧ InR .i64 s) (fun (b : (Unit ⊕ Bool)) e a w => (Sum.elim (fun b18 => e = (.exit 0) ∧ Ok u m0 (S) w ∧ Env 28 a [(0, (Value.string (bs s_0)))]) (fun b19 => e = .ret ∧ calqueref25_Name_R u m0 S b19 a w)) b) ?_ ?_ N _ a w hL ⟨ok, E.keep [0, 3], (show InR .i64 (0) by decide)⟩
  · rintro i_4 a w r ⟨ok, E, r5⟩ hF
    replace hF : calqueref25_Name_b1 N s_0 i_4 = some r := hF
    unfold calqueref25_Name_b1 at hF
    refine wp_seq ?_
    refine wp_seq ?_
    refine c_region ?_
    refine l_val E ok (y_move rfl) rfl rfl fun a E => ?_
    refine l_val E ok (y_move rfl) rfl rfl fun a E => ?_
    refine l_val E ok (y_slen Tryd.underlying9 rfl) rfl rfl fun a E => ?_
    refine l_val E ok (y_lss rfl rfl) rfl rfl fun a E => ?_
    refine wpList_nil ?_
    refine t_norm ?_
    refine c_if E rfl (fun hc6 => ?_) (fun hc6 => ?_)
    rotate_left
    · replace hF := cond_f hc6 hF
      refine wp_exit ?_
      refine t_exit ?_
      obtain rfl := Option.some.inj hF
      exact step_o (by nofun) (sl ⟨rfl, ⟨ok, E.keep [0]⟩⟩)
    replace hF := cond_t hc6 hF
    refine wp_skip ?_
    refine t_norm ?_
    refine wp_seq ?_
    refine wp_block ?_
    refine wp_seq ?_
    refine c_region ?_
    refine l_val E ok (y_move rfl) rfl rfl fun a E => ?_
    refine l_val E ok (y_move rfl) rfl rfl fun a E => ?_
    obtain ⟨c7, e8, hF⟩ := bnd hF
    refine l_val E ok (y_index Tryd.underlying9 rfl rfl e8) rfl rfl fun a E => ?_
    obtain ⟨r9, e10, hF⟩ := bnd hF
    refine l_call E go_34 rfl (calqueref25_Inner_w N (c7.toNat : Int) (InR.byte c7) e10 hG ok) rfl rfl ?_
    rintro _ w ⟨rfl, ok⟩
    refine ⟨_, rfl, fun a E => ?_⟩
    refine l_val E ok (y_not rfl) rfl rfl fun a E => ?_
    refine wpList_nil ?_
    refine t_norm ?_
    refine c_if E rfl (fun hc11 => ?_) (fun hc11 => ?_)
    rotate_left
    · replace hF := cond_f hc11 hF
      refine wp_skip ?_
      refine b_norm ?_
      refine t_norm ?_
      refine c_region ?_
      refine l_val E ok (y_move rfl) rfl rfl fun a E => ?_
      refine l_val E ok (y_add rfl rfl (InR.inc r5 (InR.len ls_0) hc6)) rfl rfl fun a E => ?_
      refine l_val E ok (y_assign rfl) rfl rfl fun a E => ?_
      refine wpList_nil ?_
      obtain rfl := Option.some.inj hF
      exact step_n ⟨ok, E.keep [0, 3], (InR.inc r5 (InR.len ls_0) hc6)⟩
    replace hF := cond_t hc11 hF
    refine wp_seq ?_
    refine c_region ?_
    refine l_val E ok (y_assign rfl) rfl rfl fun a E => ?_
    refine wpList_nil ?_
    refine t_norm ?_
    refine wp_ret ?_
    refine b_ret ?_
    refine t_ret ?_
    have hret : calqueref25_Name_R u m0 S false a w := ⟨ok, E.d, ⟨rv_t E rfl, trivial⟩⟩
    obtain rfl := Option.some.inj hF
    exact step_o (by nofun) (sr ⟨rfl, hret⟩)
  intro e a w _ hO
  rcases o2 with o2 | o2
  rotate_left
  · replace hF := elim_r hF
    obtain ⟨rfl, hret⟩ := hO
    refine b_ret ?_
    refine t_ret ?_
    obtain rfl := Option.some.inj hF
    exact fin _ _ hret
  replace hF := elim_l hF
  obtain ⟨rfl, ok, E⟩ := hO
  refine b_hit ?_
  refine t_norm ?_
  refine wp_seq ?_
  refine c_region ?_
  refine l_val E ok (y_move rfl) rfl rfl fun a E => ?_
  refine l_val E ok (y_slen Tryd.underlying9 rfl) rfl rfl fun a E => ?_
  refine l_val E ok (y_geq rfl rfl) rfl rfl fun a E => ?_
  refine l_val E ok (y_move rfl) rfl rfl fun a E => ?_
  refine bsplit (decide ((s_0.length : Int) ≥ 1)) (fun hc12 => ?_) (fun hc12 => ?_)
  rotate_left
  · replace hF := cond_f hc12 hF
    replace E := E.upd 18 hc12 rfl
    refine l_skip E rfl rfl fun a E => ?_
    refine l_skip E rfl rfl fun a E => ?_
    refine l_skip E rfl rfl fun a E => ?_
    refine l_val E ok (y_pickF rfl rfl) rfl rfl fun a E => ?_
    refine l_val E ok (y_move rfl) rfl rfl fun a E => ?_
    refine l_skip E rfl rfl fun a E => ?_
    refine l_skip E rfl rfl fun a E => ?_
    refine l_skip E rfl rfl fun a E => ?_
    refine l_val E ok (y_pickF rfl rfl) rfl rfl fun a E => ?_
    refine l_val E ok (y_assign rfl) rfl rfl fun a E => ?_
    refine wpList_nil ?_
    refine t_norm ?_
    refine wp_ret ?_
    have hret : calqueref25_Name_R u m0 S false a w := ⟨ok, E.d, ⟨rv_t E rfl, trivial⟩⟩
    obtain rfl := Option.some.inj hF
    exact fin _ _ hret
  replace hF := cond_t hc12 hF
  replace E := E.upd 18 hc12 rfl
  refine l_val E ok (y_move rfl) rfl rfl fun a E => ?_
  refine l_val E ok (y_slen Tryd.underlying9 rfl) rfl rfl fun a E => ?_
  refine l_val E ok (y_leq rfl rfl) rfl rfl fun a E => ?_
  refine l_val E ok (y_pickT rfl rfl) rfl rfl fun a E => ?_
  refine l_val E ok (y_move rfl) rfl rfl fun a E => ?_
  refine bsplit (decide ((s_0.length : Int) ≤ 40)) (fun hc13 => ?_) (fun hc13 => ?_)
  rotate_left
  · replace hF := cond_f hc13 hF
    replace E := E.upd 23 hc13 rfl
    refine l_skip E rfl rfl fun a E => ?_
    refine l_skip E rfl rfl fun a E => ?_
    refine l_skip E rfl rfl fun a E => ?_
    refine l_val E ok (y_pickF rfl rfl) rfl rfl fun a E => ?_
    refine l_val E ok (y_assign rfl) rfl rfl fun a E => ?_
    refine wpList_nil ?_
    refine t_norm ?_
    refine wp_ret ?_
    have hret : calqueref25_Name_R u m0 S false a w := ⟨ok, E.d, ⟨rv_t E rfl, trivial⟩⟩
    obtain rfl := Option.some.inj hF
    exact fin _ _ hret
  replace hF := cond_t hc13 hF
  replace E := E.upd 23 hc13 rfl
  refine l_val E ok (y_move rfl) rfl rfl fun a E => ?_
  obtain ⟨c14, e15, hF⟩ := bnd hF
  refine l_val E ok (y_index Tryd.underlying9 rfl rfl e15) rfl rfl fun a E => ?_
  obtain ⟨r16, e17, hF⟩ := bnd hF
  refine l_call E go_35 rfl (calqueref25_lower_w N (c14.toNat : Int) (InR.byte c14) e17 hG ok) rfl rfl ?_
  rintro _ w ⟨rfl, ok⟩
  refine ⟨_, rfl, fun a E => ?_⟩
  refine l_val E ok (y_pickT rfl rfl) rfl rfl fun a E => ?_
  refine l_val E ok (y_assign rfl) rfl rfl fun a E => ?_
  refine wpList_nil ?_
  refine t_norm ?_
  refine wp_ret ?_
  have hret : calqueref25_Name_R u m0 S r16 a w := ⟨ok, E.d, ⟨rv_t E rfl, trivial⟩⟩
  obtain rfl := Option.some.inj hF
  exact fin _ _ hret

def calqueref26_In_R (u : World) (m0 : Mem) (S : Segs) (r : Bool) (a : Act) (w : World) : Prop :=
  Ok u m0 S w ∧ a.defers = [] ∧ RVs Tryd.prog a w [.t 4 (.bool r)]
set_option maxHeartbeats 4000000 in
set_option maxRecDepth 100000 in
theorem calqueref26_In_w {u : World} {m0 : Mem} {S : Segs} {w : World} (N : Nat) (vl_0 : Value) (l_0 : List (List UInt8)) (hl_0 : (pL 1 pS) m0 [vl_0] l_0) (s_1 : List UInt8) (ls_1 : s_1.length ≤ LIMS) {r : Bool} (hF : calqueref26_In N l_0 s_1 = some r) (hG : Glob u) (ok : Ok u m0 S w) :
    Calls Tryd.prog 28 [vl_0, Value.string (bs s_1)].toArray w fun e w' => (e = .returned (.bool r) ∧ Ok u m0 S w') := by
  have hb0 := ok.base
  have le_m0 := Mem.le.refl m0
  unfold calqueref26_In at hF
  have fin : ∀ a w, calqueref26_In_R u m0 S r a w → bodyPost Tryd.prog Tryd.f28 (fun e w' => (e = .returned (.bool r) ∧ Ok u m0 S w')) .ret a w := by
    intro a w h
    obtain ⟨ok, hd, hrv⟩ := h
    exact c_ret2 [.t 4 (.bool r)] hd rfl hrv ⟨rfl, ok⟩
  refine enter Tryd.func28 rfl rfl rfl fun a E => ?_
  refine wp_seq ?_
  refine c_region ?_
  refine l_val E ok (y_assign rfl) rfl rfl fun a E => ?_
  refine wpList_nil ?_
  refine t_norm ?_
  refine wp_seq ?_
  refine wp_seq ?_
  refine c_region ?_
  refine l_val E ok (y_assign rfl) rfl rfl fun a E => ?_
  refine wpList_nil ?_
  refine t_norm ?_
  refine wp_block ?_
  obtain ⟨o2, hL, hF⟩ := bnd hF
  refine c_loop _ (fun (s : Int) a w => Ok u m0 (S) w ∧ Env 18 a [(0, vl_0), (1, (Value.string (bs s_1))), (5, (Value.int .i64 s))] ∧ InR .i64 s) (fun (b : (Unit ⊕ Bool)) e a w => (Sum.elim (fun b18 => e = (.exit 0) ∧ Ok u m0 (S) w ∧ Env 18 a []) (fun b19 => e = .ret ∧ calqueref26_In_R u m0 S b19 a w)) b) ?_ ?_ N _ a w hL ⟨ok, E.keep [0, 1, 5], (show InR .i64 (0) by decide)⟩
  rotate_left
  · intro e a w _ hO
    rcases o2 with o2 | o2
    rotate_left
    · replace hF := elim_r hF
      obtain ⟨rfl, hret⟩ := hO
      refine b_ret ?_
      refine t_ret ?_
      obtain rfl := Option.some.inj hF
      exact fin _ _ hret
    replace hF := elim_l hF
    obtain ⟨rfl, ok, E⟩ := hO
    refine b_hit ?_
    refine t_norm ?_
    refine wp_seq ?_
    refine c_region ?_
    refine l_val E ok (y_assign rfl) rfl rfl fun a E => ?_
    refine wpList_nil ?_
    refine t_norm ?_
    refine wp_ret ?_
    have hret : calqueref26_In_R u m0 S false a w := ⟨ok, E.d, ⟨rv_t E rfl, trivial⟩⟩
    obtain rfl := Option.some.inj hF
    exact fin _ _ hret
  rintro i_4 a w r ⟨ok, E, r5⟩ hF
  replace hF : calqueref26_In_b1 N l_0 s_1 i_4 = some r := hF
  unfold calqueref26_In_b1 at hF
  refine wp_seq ?_
  refine wp_seq ?_
  refine c_region ?_
  refine l_val E ok (y_move rfl) rfl rfl fun a E => ?_
  refine l_val E ok (y_move rfl) rfl rfl fun a E => ?_
  refine l_val E ok (y_lenL sl_22 hl_0 rfl) rfl rfl fun a E => ?_
  refine l_val E ok (y_lss rfl rfl) rfl rfl fun a E => ?_
  refine wpList_nil ?_
  refine t_norm ?_
  refine c_if E rfl (fun hc6 => ?_) (fun hc6 => ?_)
  rotate_left
  · replace hF := cond_f hc6 hF
    refine wp_exit ?_
    refine t_exit ?_
    obtain rfl := Option.some.inj hF
    exact step_o (by nofun) (sl ⟨rfl, ⟨ok, E.keep []⟩⟩)
  replace hF := cond_t hc6 hF
  refine wp_skip ?_
  refine t_norm ?_
  refine wp_seq ?_
  refine wp_block ?_
  refine wp_seq ?_
  refine c_region ?_
  refine l_val E ok (y_move rfl) rfl rfl fun a E => ?_
  refine l_val E ok (y_move rfl) rfl rfl fun a E => ?_
  obtain ⟨x7, e8, hF⟩ := bnd hF
  obtain ⟨b9, o10, es11, hl12, rr13, at14, yy15⟩ := idxAt sl_22 hl_0 e8 (P := Tryd.prog) (X := .tmp 12) (I := .tmp 13) (kd := .i64) (ev_of E rfl) (ev_of E rfl)
  obtain ⟨rfl, l16⟩ := rr13
  refine l_val E ok (yy15 _ _) rfl rfl fun a E => ?_
  refine l_val E ok (y_load one_9 rfl (Holds.ro at14)) rfl rfl fun a E => ?_
  refine l_val E ok (y_move rfl) rfl rfl fun a E => ?_
  refine l_val E ok (y_seql rfl rfl) rfl rfl fun a E => ?_
  refine wpList_nil ?_
  refine t_norm ?_
  refine c_if E rfl (fun hc17 => ?_) (fun hc17 => ?_)
  rotate_left
  · replace hF := cond_f hc17 hF
    refine wp_skip ?_
    refine b_norm ?_
    refine t_norm ?_
    refine c_region ?_
    refine l_val E ok (y_move rfl) rfl rfl fun a E => ?_
    refine l_val E ok (y_add rfl rfl (InR.inc r5 (pL_InR hl_0) hc6)) rfl rfl fun a E => ?_
    refine l_val E ok (y_assign rfl) rfl rfl fun a E => ?_
    refine wpList_nil ?_
    obtain rfl := Option.some.inj hF
    exact step_n ⟨ok, E.keep [0, 1, 5], (InR.inc r5 (pL_InR hl_0) hc6)⟩
  replace hF := cond_t hc17 hF
  refine wp_seq ?_
  refine c_region ?_
  refine l_val E ok (y_assign rfl) rfl rfl fun a E => ?_
  refine wpList_nil ?_
  refine t_norm ?_
  refine wp_ret ?_
  refine b_ret ?_
  refine t_ret ?_
  have hret : calqueref26_In_R u m0 S true a w := ⟨ok, E.d, ⟨rv_t E rfl, trivial⟩⟩
  obtain rfl := Option.some.inj hF
  exact step_o (by nofun) (sr ⟨rfl, hret⟩)

def calqueref34_Named_R (u : World) (m0 : Mem) (S : Segs) (r : Bool) (a : Act) (w : World) : Prop :=
  Ok u m0 S w ∧ a.defers = [] ∧ RVs Tryd.prog a w [.t 2 (.bool r)]
set_option maxHeartbeats 4000000 in
set_option maxRecDepth 100000 in
theorem calqueref34_Named_w {u : World} {m0 : Mem} {S : Segs} {w : World} (N : Nat) (vl_0 : Value) (l_0 : List (List UInt8)) (hl_0 : (pL 1 pS) m0 [vl_0] l_0) {r : Bool} (hF : calqueref34_Named N l_0 = some r) (hG : Glob u) (ok : Ok u m0 S w) :
    Calls Tryd.prog 14 [vl_0].toArray w fun e w' => (e = .returned (.bool r) ∧ Ok u m0 S w') := by
  have hb0 := ok.base
  have le_m0 := Mem.le.refl m0
  unfold calqueref34_Named at hF
  have fin : ∀ a w, calqueref34_Named_R u m0 S r a w → bodyPost Tryd.prog Tryd.f14 (fun e w' => (e = .returned (.bool r) ∧ Ok u m0 S w')) .ret a w := by
    intro a w h
    obtain ⟨ok, hd, hrv⟩ := h
    exact c_ret2 [.t 2 (.bool r)] hd rfl hrv ⟨rfl, ok⟩
  refine enter Tryd.func14 rfl rfl rfl fun a E => ?_
  refine wp_seq ?_
  refine c_region ?_
  refine l_val E ok (y_assign rfl) rfl rfl fun a E => ?_
  refine wpList_nil ?_
  refine t_norm ?_
  refine wp_seq ?_
  refine wp_seq ?_
  refine c_region ?_
  refine l_val E ok (y_assign rfl) rfl rfl fun a E => ?_
  refine wpList_nil ?_
  refine t_norm ?_
  refine wp_block ?_
  obtain ⟨o2, hL, hF⟩ := bnd hF
  refine c_loop _ (fun (s : Int) a w => Ok u m0 (S) w ∧ Env 29 a [(0, vl_0), (3, (Value.int .i64 s))] ∧ InR .i64 s) (fun (b : (Unit ⊕ Bool)) e a w => (Sum.elim (fun b38 => e = (.exit 0) ∧ Ok u m0 (S) w ∧ Env 29 a [(0, vl_0)]) (fun b39 => e = .ret ∧ calqueref34_Named_R u m0 S b39 a w)) b) ?_ ?_ N _ a w hL ⟨ok, E.keep [0, 3], (show InR .i64 (0) by decide)⟩
  rotate_left
  · intro e a w _ hO
    rcases o2 with o2 | o2
    rotate_left
    · replace hF := elim_r hF
      obtain ⟨rfl, hret⟩ := hO
      refine b_ret ?_
      refine t_ret ?_
      obtain rfl := Option.some.inj hF
      exact fin _ _ hret
    replace hF := elim_l hF
    obtain ⟨rfl, ok, E⟩ := hO
    refine b_hit ?_
    refine t_norm ?_
    refine wp_seq ?_
    refine c_region ?_
    refine l_val E ok (y_move rfl) rfl rfl fun a E => ?_
    refine l_val E ok (y_lenL sl_22 hl_0 rfl) rfl rfl fun a E => ?_
    refine l_val E ok (y_leq rfl rfl) rfl rfl fun a E => ?_
    refine l_val E ok (y_assign rfl) rfl rfl fun a E => ?_
    refine wpList_nil ?_
    refine t_norm ?_
    refine wp_ret ?_
    have hret : calqueref34_Named_R u m0 S (decide ((l_0.length : Int) ≤ 20)) a w := ⟨ok, E.d, ⟨rv_t E rfl, trivial⟩⟩
    obtain rfl := Option.some.inj hF
    exact fin _ _ hret
  rintro i_4 a w r ⟨ok, E, r5⟩ hF
  replace hF : calqueref34_Named_b1 N l_0 i_4 = some r := hF
  unfold calqueref34_Named_b1 at hF
  refine wp_seq ?_
  refine wp_seq ?_
  refine c_region ?_
  refine l_val E ok (y_move rfl) rfl rfl fun a E => ?_
  refine l_val E ok (y_move rfl) rfl rfl fun a E => ?_
  refine l_val E ok (y_lenL sl_22 hl_0 rfl) rfl rfl fun a E => ?_
  refine l_val E ok (y_lss rfl rfl) rfl rfl fun a E => ?_
  refine wpList_nil ?_
  refine t_norm ?_
  refine c_if E rfl (fun hc6 => ?_) (fun hc6 => ?_)
  rotate_left
  · replace hF := cond_f hc6 hF
    refine wp_exit ?_
    refine t_exit ?_
    obtain rfl := Option.some.inj hF
    exact step_o (by nofun) (sl ⟨rfl, ⟨ok, E.keep [0]⟩⟩)
  replace hF := cond_t hc6 hF
  refine wp_skip ?_
  refine t_norm ?_
  refine wp_seq ?_
  refine wp_block ?_
  refine wp_seq ?_
  refine c_draw (by kernel_rfl) (by kernel_rfl) ok ?_
  refine q_val E (y_move rfl) rfl rfl fun a E => ?_
  refine q_val E (y_move rfl) rfl rfl fun a E => ?_
  obtain ⟨x7, e8, hF⟩ := bnd hF
  obtain ⟨b9, o10, es11, hl12, rr13, at14, yy15⟩ := idxAt sl_22 hl_0 e8 (P := Tryd.prog) (X := .tmp 10) (I := .tmp 11) (kd := .i64) (ev_of E rfl) (ev_of E rfl)
  obtain ⟨rfl, l16⟩ := rr13
  refine q_val E (yy15 _ _) rfl rfl fun a E => ?_
  refine q_val E (y_load one_9 rfl (Holds.ro at14)) rfl rfl fun a E => ?_
  obtain ⟨r17, e18, hF⟩ := bnd hF
  refine q_call E go_23 rfl (fun w ok => (calqueref25_Name_w N x7 l16 e18 hG ok).mono (fun _ _ h => h)) rfl rfl fun a E => ?_
  refine q_val E (y_not rfl) rfl rfl fun a E => ?_
  refine q_val E (y_move rfl) rfl rfl fun a E => ?_
  refine bsplit (!r17) (fun hc19 => ?_) (fun hc19 => ?_)
  · replace hF := cond_t hc19 hF
    replace E := E.upd 16 hc19 rfl
    refine q_skip E rfl rfl fun a E => ?_
    refine q_skip E rfl rfl fun a E => ?_
    refine q_skip E rfl rfl fun a E => ?_
    refine q_skip E rfl rfl fun a E => ?_
    refine q_skip E rfl rfl fun a E => ?_
    refine q_skip E rfl rfl fun a E => ?_
    refine q_skip E rfl rfl fun a E => ?_
    refine q_skip E rfl rfl fun a E => ?_
    refine q_val E (y_pickT rfl rfl) rfl rfl fun a E => ?_
    refine wpQuiet_nil ?_
    intro w ok
    refine t_norm ?_
    refine c_if E rfl (fun _ => ?_) (fun h => by cases h)
    refine wp_seq ?_
    refine c_region ?_
    refine l_val E ok (y_assign rfl) rfl rfl fun a E => ?_
    refine wpList_nil ?_
    refine t_norm ?_
    refine wp_ret ?_
    refine b_ret ?_
    refine t_ret ?_
    have hret : calqueref34_Named_R u m0 S false a w := ⟨ok, E.d, ⟨rv_t E rfl, trivial⟩⟩
    obtain rfl := Option.some.inj hF
    exact step_o (by nofun) (sr ⟨rfl, hret⟩)
  replace hF := cond_f hc19 hF
  replace E := E.upd 16 hc19 rfl
  refine q_val E (y_move rfl) rfl rfl fun a E => ?_
  refine q_val E (y_move rfl) rfl rfl fun a E => ?_
  obtain ⟨l20, e21, hF⟩ := bnd hF
  obtain ⟨c22, h23, yy24⟩ := pL_slice sl_22 hl_0 e21 (P := Tryd.prog) (X := .tmp 17) (lov := none) (hiv := (some (.tmp 18))) (ev_of E rfl) (sb_of E rfl) (sb_of E ⟨_, rfl⟩)
  refine q_val E (yy24 _ _) rfl rfl fun a E => ?_
  refine q_val E (y_move rfl) rfl rfl fun a E => ?_
  refine q_val E (y_move rfl) rfl rfl fun a E => ?_
  obtain ⟨x25, e26, hF⟩ := bnd hF
  obtain ⟨b27, o28, es29, hl30, rr31, at32, yy33⟩ := idxAt sl_22 hl_0 e26 (P := Tryd.prog) (X := .tmp 20) (I := .tmp 21) (kd := .i64) (ev_of E rfl) (ev_of E rfl)
  obtain ⟨rfl, l34⟩ := rr31
  refine q_val E (yy33 _ _) rfl rfl fun a E => ?_
  refine q_val E (y_load one_9 rfl (Holds.ro at32)) rfl rfl fun a E => ?_
  obtain ⟨r35, e36, hF⟩ := bnd hF
  refine q_call E go_28 rfl (fun w ok => (calqueref26_In_w N _ l20 h23 x25 l34 e36 hG ok).mono (fun _ _ h => h)) rfl rfl fun a E => ?_
  refine q_val E (y_pickF rfl rfl) rfl rfl fun a E => ?_
  refine wpQuiet_nil ?_
  intro w ok
  refine t_norm ?_
  refine c_if E rfl (fun hc37 => ?_) (fun hc37 => ?_)
  rotate_left
  · replace hF := cond_f hc37 hF
    refine wp_skip ?_
    refine b_norm ?_
    refine t_norm ?_
    refine c_region ?_
    refine l_val E ok (y_move rfl) rfl rfl fun a E => ?_
    refine l_val E ok (y_add rfl rfl (InR.inc r5 (pL_InR hl_0) hc6)) rfl rfl fun a E => ?_
    refine l_val E ok (y_assign rfl) rfl rfl fun a E => ?_
    refine wpList_nil ?_
    obtain rfl := Option.some.inj hF
    exact step_n ⟨ok, E.keep [0, 3], (InR.inc r5 (pL_InR hl_0) hc6)⟩
  replace hF := cond_t hc37 hF
  refine wp_seq ?_
  refine c_region ?_
  refine l_val E ok (y_assign rfl) rfl rfl fun a E => ?_
  refine wpList_nil ?_
  refine t_norm ?_
  refine wp_ret ?_
  refine b_ret ?_
  refine t_ret ?_
  have hret : calqueref34_Named_R u m0 S false a w := ⟨ok, E.d, ⟨rv_t E rfl, trivial⟩⟩
  obtain rfl := Option.some.inj hF
  exact step_o (by nofun) (sr ⟨rfl, hret⟩)

end Go.Proofs.YtmghnmfefpeelaaDoor
