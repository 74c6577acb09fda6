/- The walks of this part: the model's run of each function yields what the plain function says. Printed by gen8.py. -/
import Derived.Test.YtmghnmfefpeelaaDoorExt34p1
import Derived.Test.YtmghnmfefpeelaaDoorWalk34a1
import Derived.Test.YtmghnmfefpeelaaDoorWalk34a2
import Derived.Test.YtmghnmfefpeelaaDoorWalk34m
import Derived.Test.YtmghnmfefpeelaaDoorChecked
import Derived.Test.YtmghnmfefpeelaaDoorShelf
set_option linter.unusedVariables false
namespace Go.Proofs.YtmghnmfefpeelaaDoor
open Go.X

def pNumber2 : Rp Number2 := fun _ cs x => cs = [.bool x.Neg, .string (bs x.Whole), .string (bs x.Frac)] ∧ x.Whole.length ≤ LIMS ∧ x.Frac.length ≤ LIMS
theorem mNumber2 : Mono pNumber2 := ⟨fun _ h => by
  obtain ⟨e, h1, h2⟩ := h
  exact ⟨e, h1, h2⟩, fun h => by
  obtain ⟨rfl, h1, h2⟩ := h
  exact ⟨rfl, rfl, rfl, trivial⟩⟩

theorem agg_25 : aggB Tryd.prog 25 2 = true := by kernel_rfl
theorem agg_88 : aggB Tryd.prog 88 3 = true := by kernel_rfl
theorem fo_35_0 : fieldOffB Tryd.prog 35 0 0 = true := by kernel_rfl
theorem fo_35_1 : fieldOffB Tryd.prog 35 1 1 = true := by kernel_rfl
theorem fo_35_2 : fieldOffB Tryd.prog 35 2 2 = true := by kernel_rfl
theorem fo_88_0 : fieldOffB Tryd.prog 88 0 0 = true := by kernel_rfl
theorem fo_88_1 : fieldOffB Tryd.prog 88 1 1 = true := by kernel_rfl
theorem fo_88_2 : fieldOffB Tryd.prog 88 2 2 = true := by kernel_rfl
theorem go_11 : goB Tryd.prog 11 = true := by kernel_rfl
theorem go_12 : goB Tryd.prog 12 = true := by kernel_rfl
theorem go_24 : goB Tryd.prog 24 = true := by kernel_rfl
theorem go_25 : goB Tryd.prog 25 = true := by kernel_rfl
theorem go_26 : goB Tryd.prog 26 = true := by kernel_rfl
theorem go_36 : goB Tryd.prog 36 = true := by kernel_rfl
theorem go_45 : goB Tryd.prog 45 = true := by kernel_rfl
theorem go_46 : goB Tryd.prog 46 = true := by kernel_rfl
theorem go_51 : goB Tryd.prog 51 = true := by kernel_rfl
theorem go_58 : goB Tryd.prog 58 = true := by kernel_rfl
theorem go_59 : goB Tryd.prog 59 = true := by kernel_rfl
theorem go_8 : goB Tryd.prog 8 = true := by kernel_rfl
theorem go_9 : goB Tryd.prog 9 = true := by kernel_rfl
set_option maxRecDepth 100000 in
theorem inf_35 : ∃ i, Tryd.prog.info? 35 = some i ∧ i.size = 4 := ⟨_, rfl, by kernel_rfl⟩
set_option maxRecDepth 100000 in
theorem inf_88 : ∃ i, Tryd.prog.info? 88 = some i ∧ i.size = 3 := ⟨_, rfl, by kernel_rfl⟩
set_option maxRecDepth 100000 in
theorem inf_9 : ∃ i, Tryd.prog.info? 9 = some i ∧ i.size = 1 := ⟨_, rfl, by kernel_rfl⟩
theorem places_88 : placesB Tryd.prog 88 = some [(0, 1), (1, 1), (2, 1)] := by kernel_rfl
theorem zero_35 : zeroB Tryd.prog 35 = some [(Value.int .i64 0), (Value.int .i64 0), (Value.int .i64 0), (Value.string (bs ([])))] := by kernel_rfl
theorem zero_88 : zeroB Tryd.prog 88 = some [(Value.bool false), (Value.string (bs ([]))), (Value.string (bs ([])))] := by kernel_rfl

def calqueref26_Skeleton_R (u : World) (m0 : Mem) (S : Segs) (r : Bool) (a : Act) (w : World) : Prop :=
  Ok u m0 S w ∧ a.defers = [] ∧ RVs Tryd.prog a w [.t 2 (.bool r)]
set_option maxHeartbeats 4000000 in
set_option maxRecDepth 100000 in
theorem calqueref26_Skeleton_w {u : World} {m0 : Mem} {S : Segs} {w : World} (N : Nat) (s_0 : List UInt8) (ls_0 : s_0.length ≤ LIMS) {r : Bool} (hF : calqueref26_Skeleton N s_0 = some r) (hG : Glob u) (ok : Ok u m0 S w) :
    Calls Tryd.prog 24 [Value.string (bs s_0)].toArray w fun e w' => (e = .returned (.bool r) ∧ Ok u m0 S w') := by
  have hb0 := ok.base
  have le_m0 := Mem.le.refl m0
  unfold calqueref26_Skeleton at hF
  have fin : ∀ a w, calqueref26_Skeleton_R u m0 S r a w → bodyPost Tryd.prog Tryd.f24 (fun e w' => (e = .returned (.bool r) ∧ Ok u m0 S w')) .ret a w := by
    intro a w h
    obtain ⟨ok, hd, hrv⟩ := h
    exact c_ret2 [.t 2 (.bool r)] hd rfl hrv ⟨rfl, ok⟩
  refine enter Tryd.func24 rfl rfl rfl fun a E => ?_
  refine wp_seq ?_
  refine c_region ?_
  refine l_val E ok (y_assign rfl) rfl rfl fun a E => ?_
  refine wpList_nil ?_
  refine t_norm ?_
  refine wp_seq ?_
  refine wp_seq ?_
  refine c_region ?_
  refine l_val E ok (y_assign rfl) rfl rfl fun a E => ?_
  refine wpList_nil ?_
  refine t_norm ?_
  refine wp_block ?_
  obtain ⟨o2, hL, hF⟩ := bnd hF
  refine c_loop _ (fun (s : Int) a w => Ok u m0 (S) w ∧ Env 37 a [(0, (Value.string (bs s_0))), (3, (Value.int .i64 s))] ∧ InR .i64 s) (fun (b : (Unit ⊕ Bool)) e a w => (Sum.elim (fun b19 => e = (.exit 0) ∧ Ok u m0 (S) w ∧ Env 37 a [(0, (Value.string (bs s_0)))]) (fun b20 => e = .ret ∧ calqueref26_Skeleton_R u m0 S b20 a w)) b) ?_ ?_ N _ a w hL ⟨ok, E.keep [0, 3], (show InR .i64 (0) by decide)⟩
  rotate_left
  · intro e a w _ hO
    rcases o2 with o2 | o2
    rotate_left
    · replace hF := elim_r hF
      obtain ⟨rfl, hret⟩ := hO
      refine b_ret ?_
      refine t_ret ?_
      obtain rfl := Option.some.inj hF
      exact fin _ _ hret
    replace hF := elim_l hF
    obtain ⟨rfl, ok, E⟩ := hO
    refine b_hit ?_
    refine t_norm ?_
    refine wp_seq ?_
    refine c_region ?_
    refine l_val E ok (y_move rfl) rfl rfl fun a E => ?_
    refine l_val E ok (y_slen Tryd.underlying9 rfl) rfl rfl fun a E => ?_
    refine l_val E ok (y_geq rfl rfl) rfl rfl fun a E => ?_
    refine l_val E ok (y_move rfl) rfl rfl fun a E => ?_
    refine bsplit (decide ((s_0.length : Int) ≥ 1)) (fun hc18 => ?_) (fun hc18 => ?_)
    · replace hF := cond_t hc18 hF
      replace E := E.upd 32 hc18 rfl
      refine l_val E ok (y_move rfl) rfl rfl fun a E => ?_
      refine l_val E ok (y_slen Tryd.underlying9 rfl) rfl rfl fun a E => ?_
      refine l_val E ok (y_leq rfl rfl) rfl rfl fun a E => ?_
      refine l_val E ok (y_pickT rfl rfl) rfl rfl fun a E => ?_
      refine l_val E ok (y_assign rfl) rfl rfl fun a E => ?_
      refine wpList_nil ?_
      refine t_norm ?_
      refine wp_ret ?_
      have hret : calqueref26_Skeleton_R u m0 S (decide ((s_0.length : Int) ≤ 40)) a w := ⟨ok, E.d, ⟨rv_t E rfl, trivial⟩⟩
      obtain rfl := Option.some.inj hF
      exact fin _ _ hret
    replace hF := cond_f hc18 hF
    replace E := E.upd 32 hc18 rfl
    iterate 3 refine l_skip E rfl rfl fun a E => ?_
    refine l_val E ok (y_pickF rfl rfl) rfl rfl fun a E => ?_
    refine l_val E ok (y_assign rfl) rfl rfl fun a E => ?_
    refine wpList_nil ?_
    refine t_norm ?_
    refine wp_ret ?_
    have hret : calqueref26_Skeleton_R u m0 S false a w := ⟨ok, E.d, ⟨rv_t E rfl, trivial⟩⟩
    obtain rfl := Option.some.inj hF
    exact fin _ _ hret
  rintro i_4 a w r ⟨ok, E, r5⟩ hF
  replace hF : calqueref26_Skeleton_b1 N s_0 i_4 = some r := hF
  unfold calqueref26_Skeleton_b1 at hF
  refine wp_seq ?_
  refine wp_seq ?_
  refine c_region ?_
  refine l_val E ok (y_move rfl) rfl rfl fun a E => ?_
  refine l_val E ok (y_move rfl) rfl rfl fun a E => ?_
  refine l_val E ok (y_slen Tryd.underlying9 rfl) rfl rfl fun a E => ?_
  refine l_val E ok (y_lss rfl rfl) rfl rfl fun a E => ?_
  refine wpList_nil ?_
  refine t_norm ?_
  refine c_if E rfl (fun hc6 => ?_) (fun hc6 => ?_)
  rotate_left
  · replace hF := cond_f hc6 hF
    refine wp_exit ?_
    refine t_exit ?_
    obtain rfl := Option.some.inj hF
    exact step_o (by nofun) (sl ⟨rfl, ⟨ok, E.keep [0]⟩⟩)
  replace hF := cond_t hc6 hF
  refine wp_skip ?_
  refine t_norm ?_
  refine wp_seq ?_
  refine wp_block ?_
  refine wp_seq ?_
  refine c_region ?_
  refine l_val E ok (y_move rfl) rfl rfl fun a E => ?_
  refine l_val E ok (y_move rfl) rfl rfl fun a E => ?_
  obtain ⟨c7, e8, hF⟩ := bnd hF
  refine l_val E ok (y_index Tryd.underlying9 rfl rfl e8) rfl rfl fun a E => ?_
  refine l_val E ok (y_assign rfl) rfl rfl fun a E => ?_
  refine wpList_nil ?_
  refine t_norm ?_
  refine wp_seq ?_
  refine c_region ?_
  refine l_val E ok (y_move rfl) rfl rfl fun a E => ?_
  refine l_val E ok (y_geq rfl rfl) rfl rfl fun a E => ?_
  refine l_val E ok (y_move rfl) rfl rfl fun a E => ?_
  refine bsplit (decide ((c7.toNat : Int) ≥ 97)) (fun hc9 => ?_) (fun hc9 => ?_)
  rotate_left
  · replace hF := cond_f hc9 hF
    replace E := E.upd 16 hc9 rfl
    iterate 2 refine l_skip E rfl rfl fun a E => ?_
    refine l_val E ok (y_pickF rfl rfl) rfl rfl fun a E => ?_
    refine l_val E ok (y_move rfl) rfl rfl fun a E => ?_
    refine l_val E ok (y_move rfl) rfl rfl fun a E => ?_
    refine l_val E ok (y_geq rfl rfl) rfl rfl fun a E => ?_
    refine l_val E ok (y_move rfl) rfl rfl fun a E => ?_
    refine bsplit (decide ((c7.toNat : Int) ≥ 65)) (fun hc15 => ?_) (fun hc15 => ?_)
    · replace hF := cond_t hc15 hF
      replace E := E.upd 23 hc15 rfl
      refine l_val E ok (y_move rfl) rfl rfl fun a E => ?_
      refine l_val E ok (y_leq rfl rfl) rfl rfl fun a E => ?_
      refine l_val E ok (y_pickT rfl rfl) rfl rfl fun a E => ?_
      refine l_val E ok (y_pickF rfl rfl) rfl rfl fun a E => ?_
      refine l_val E ok (y_not rfl) rfl rfl fun a E => ?_
      refine wpList_nil ?_
      refine t_norm ?_
      refine c_if E rfl (fun hc16 => ?_) (fun hc16 => ?_)
      rotate_left
      · replace hF := cond_f hc16 hF
        refine wp_skip ?_
        refine b_norm ?_
        refine t_norm ?_
        refine c_region ?_
        refine l_val E ok (y_move rfl) rfl rfl fun a E => ?_
        refine l_val E ok (y_add rfl rfl (InR.inc r5 (InR.len ls_0) hc6)) rfl rfl fun a E => ?_
        refine l_val E ok (y_assign rfl) rfl rfl fun a E => ?_
        refine wpList_nil ?_
        obtain rfl := Option.some.inj hF
        exact step_n ⟨ok, E.keep [0, 3], (InR.inc r5 (InR.len ls_0) hc6)⟩
      replace hF := cond_t hc16 hF
      refine wp_seq ?_
      refine c_region ?_
      refine l_val E ok (y_assign rfl) rfl rfl fun a E => ?_
      refine wpList_nil ?_
      refine t_norm ?_
      refine wp_ret ?_
      refine b_ret ?_
      refine t_ret ?_
      have hret : calqueref26_Skeleton_R u m0 S false a w := ⟨ok, E.d, ⟨rv_t E rfl, trivial⟩⟩
      obtain rfl := Option.some.inj hF
      exact step_o (by nofun) (sr ⟨rfl, hret⟩)
    replace hF := cond_f hc15 hF
    replace E := E.upd 23 hc15 rfl
    iterate 2 refine l_skip E rfl rfl fun a E => ?_
    refine l_val E ok (y_pickF rfl rfl) rfl rfl fun a E => ?_
    refine l_val E ok (y_pickF rfl rfl) rfl rfl fun a E => ?_
    refine l_val E ok (y_not rfl) rfl rfl fun a E => ?_
    refine wpList_nil ?_
    refine t_norm ?_
    refine c_if E rfl (fun hc17 => ?_) (fun hc17 => ?_)
    rotate_left
    · replace hF := cond_f hc17 hF
      refine wp_skip ?_
      refine b_norm ?_
      refine t_norm ?_
      refine c_region ?_
      refine l_val E ok (y_move rfl) rfl rfl fun a E => ?_
      refine l_val E ok (y_add rfl rfl (InR.inc r5 (InR.len ls_0) hc6)) rfl rfl fun a E => ?_
      refine l_val E ok (y_assign rfl) rfl rfl fun a E => ?_
      refine wpList_nil ?_
      obtain rfl := Option.some.inj hF
      exact step_n ⟨ok, E.keep [0, 3], (InR.inc r5 (InR.len ls_0) hc6)⟩
    replace hF := cond_t hc17 hF
    refine wp_seq ?_
    refine c_region ?_
    refine l_val E ok (y_assign rfl) rfl rfl fun a E => ?_
    refine wpList_nil ?_
    refine t_norm ?_
    refine wp_ret ?_
    refine b_ret ?_
    refine t_ret ?_
    have hret : calqueref26_Skeleton_R u m0 S false a w := ⟨ok, E.d, ⟨rv_t E rfl, trivial⟩⟩
    obtain rfl := Option.some.inj hF
    exact step_o (by nofun) (sr ⟨rfl, hret⟩)
  replace hF := cond_t hc9 hF
  replace E := E.upd 16 hc9 rfl
  refine l_val E ok (y_move rfl) rfl rfl fun a E => ?_
  refine l_val E ok (y_leq rfl rfl) rfl rfl fun a E => ?_
  refine l_val E ok (y_pickT rfl rfl) rfl rfl fun a E => ?_
  refine l_val E ok (y_move rfl) rfl rfl fun a E => ?_
  refine bsplit (decide ((c7.toNat : Int) ≤ 122)) (fun hc10 => ?_) (fun hc10 => ?_)
  · replace hF := cond_t hc10 hF
    replace E := E.upd 20 hc10 rfl
    iterate 6 refine l_skip E rfl rfl fun a E => ?_
    refine l_val E ok (y_pickT rfl rfl) rfl rfl fun a E => ?_
    refine l_val E ok (y_not rfl) rfl rfl fun a E => ?_
    refine wpList_nil ?_
    refine t_norm ?_
    refine c_if E rfl (fun hc11 => ?_) (fun hc11 => ?_)
    rotate_left
    · replace hF := cond_f hc11 hF
      refine wp_skip ?_
      refine b_norm ?_
      refine t_norm ?_
      refine c_region ?_
      refine l_val E ok (y_move rfl) rfl rfl fun a E => ?_
      refine l_val E ok (y_add rfl rfl (InR.inc r5 (InR.len ls_0) hc6)) rfl rfl fun a E => ?_
      refine l_val E ok (y_assign rfl) rfl rfl fun a E => ?_
      refine wpList_nil ?_
      obtain rfl := Option.some.inj hF
      exact step_n ⟨ok, E.keep [0, 3], (InR.inc r5 (InR.len ls_0) hc6)⟩
    replace hF := cond_t hc11 hF
    refine wp_seq ?_
    refine c_region ?_
    refine l_val E ok (y_assign rfl) rfl rfl fun a E => ?_
    refine wpList_nil ?_
    refine t_norm ?_
    refine wp_ret ?_
    refine b_ret ?_
    refine t_ret ?_
    have hret : calqueref26_Skeleton_R u m0 S false a w := ⟨ok, E.d, ⟨rv_t E rfl, trivial⟩⟩
    obtain rfl := Option.some.inj hF
    exact step_o (by nofun) (sr ⟨rfl, hret⟩)
  replace hF := cond_f hc10 hF
  replace E := E.upd 20 hc10 rfl
  refine l_val E ok (y_move rfl) rfl rfl fun a E => ?_
  refine l_val E ok (y_geq rfl rfl) rfl rfl fun a E => ?_
  refine l_val E ok (y_move rfl) rfl rfl fun a E => ?_
  refine bsplit (decide ((c7.toNat : Int) ≥ 65)) (fun hc12 => ?_) (fun hc12 => ?_)
  · replace hF := cond_t hc12 hF
    replace E := E.upd 23 hc12 rfl
    refine l_val E ok (y_move rfl) rfl rfl fun a E => ?_
    refine l_val E ok (y_leq rfl rfl) rfl rfl fun a E => ?_
    refine l_val E ok (y_pickT rfl rfl) rfl rfl fun a E => ?_
    refine l_val E ok (y_pickF rfl rfl) rfl rfl fun a E => ?_
    refine l_val E ok (y_not rfl) rfl rfl fun a E => ?_
    refine wpList_nil ?_
    refine t_norm ?_
    refine c_if E rfl (fun hc13 => ?_) (fun hc13 => ?_)
    rotate_left
    · replace hF := cond_f hc13 hF
      refine wp_skip ?_
      refine b_norm ?_
      refine t_norm ?_
      refine c_region ?_
      refine l_val E ok (y_move rfl) rfl rfl fun a E => ?_
      refine l_val E ok (y_add rfl rfl (InR.inc r5 (InR.len ls_0) hc6)) rfl rfl fun a E => ?_
      refine l_val E ok (y_assign rfl) rfl rfl fun a E => ?_
      refine wpList_nil ?_
      obtain rfl := Option.some.inj hF
      exact step_n ⟨ok, E.keep [0, 3], (InR.inc r5 (InR.len ls_0) hc6)⟩
    replace hF := cond_t hc13 hF
    refine wp_seq ?_
    refine c_region ?_
    refine l_val E ok (y_assign rfl) rfl rfl fun a E => ?_
    refine wpList_nil ?_
    refine t_norm ?_
    refine wp_ret ?_
    refine b_ret ?_
    refine t_ret ?_
    have hret : calqueref26_Skeleton_R u m0 S false a w := ⟨ok, E.d, ⟨rv_t E rfl, trivial⟩⟩
    obtain rfl := Option.some.inj hF
    exact step_o (by nofun) (sr ⟨rfl, hret⟩)
  replace hF := cond_f hc12 hF
  replace E := E.upd 23 hc12 rfl
  iterate 2 refine l_skip E rfl rfl fun a E => ?_
  refine l_val E ok (y_pickF rfl rfl) rfl rfl fun a E => ?_
  refine l_val E ok (y_pickF rfl rfl) rfl rfl fun a E => ?_
  refine l_val E ok (y_not rfl) rfl rfl fun a E => ?_
  refine wpList_nil ?_
  refine t_norm ?_
  refine c_if E rfl (fun hc14 => ?_) (fun hc14 => ?_)
  rotate_left
  · replace hF := cond_f hc14 hF
    refine wp_skip ?_
    refine b_norm ?_
    refine t_norm ?_
    refine c_region ?_
    refine l_val E ok (y_move rfl) rfl rfl fun a E => ?_
    refine l_val E ok (y_add rfl rfl (InR.inc r5 (InR.len ls_0) hc6)) rfl rfl fun a E => ?_
    refine l_val E ok (y_assign rfl) rfl rfl fun a E => ?_
    refine wpList_nil ?_
    obtain rfl := Option.some.inj hF
    exact step_n ⟨ok, E.keep [0, 3], (InR.inc r5 (InR.len ls_0) hc6)⟩
  replace hF := cond_t hc14 hF
  refine wp_seq ?_
  refine c_region ?_
  refine l_val E ok (y_assign rfl) rfl rfl fun a E => ?_
  refine wpList_nil ?_
  refine t_norm ?_
  refine wp_ret ?_
  refine b_ret ?_
  refine t_ret ?_
  have hret : calqueref26_Skeleton_R u m0 S false a w := ⟨ok, E.d, ⟨rv_t E rfl, trivial⟩⟩
  obtain rfl := Option.some.inj hF
  exact step_o (by nofun) (sr ⟨rfl, hret⟩)

def calqueref26_Selection_R (u : World) (m0 : Mem) (S : Segs) (r : Bool) (a : Act) (w : World) : Prop :=
  Ok u m0 S w ∧ a.defers = [] ∧ RVs Tryd.prog a w [.t 2 (.bool r)]
set_option maxHeartbeats 4000000 in
set_option maxRecDepth 100000 in
theorem calqueref26_Selection_w {u : World} {m0 : Mem} {S : Segs} {w : World} (N : Nat) (kind_0 : Int) (rkind_0 : InR .i64 kind_0) {r : Bool} (hF : calqueref26_Selection N kind_0 = some r) (hG : Glob u) (ok : Ok u m0 S w) :
    Calls Tryd.prog 25 [Value.int .i64 kind_0].toArray w fun e w' => (e = .returned (.bool r) ∧ Ok u m0 S w') := by
  have hb0 := ok.base
  have le_m0 := Mem.le.refl m0
  unfold calqueref26_Selection at hF
  have fin : ∀ a w, calqueref26_Selection_R u m0 S r a w → bodyPost Tryd.prog Tryd.f25 (fun e w' => (e = .returned (.bool r) ∧ Ok u m0 S w')) .ret a w := by
    intro a w h
    obtain ⟨ok, hd, hrv⟩ := h
    exact c_ret2 [.t 2 (.bool r)] hd rfl hrv ⟨rfl, ok⟩
  refine enter Tryd.func25 rfl rfl rfl fun a E => ?_
  refine wp_seq ?_
  refine c_region ?_
  refine l_val E ok (y_assign rfl) rfl rfl fun a E => ?_
  refine wpList_nil ?_
  refine t_norm ?_
  refine wp_seq ?_
  refine c_region ?_
  refine l_val E ok (y_move rfl) rfl rfl fun a E => ?_
  refine l_val E ok (y_eql rfl rfl) rfl rfl fun a E => ?_
  refine l_val E ok (y_move rfl) rfl rfl fun a E => ?_
  refine bsplit (kind_0 == 7) (fun hc1 => ?_) (fun hc1 => ?_)
  · replace hF := cond_t hc1 hF
    replace E := E.upd 5 hc1 rfl
    iterate 2 refine l_skip E rfl rfl fun a E => ?_
    refine l_val E ok (y_pickT rfl rfl) rfl rfl fun a E => ?_
    refine l_val E ok (y_move rfl) rfl rfl fun a E => ?_
    iterate 2 refine l_skip E rfl rfl fun a E => ?_
    refine l_val E ok (y_pickT rfl rfl) rfl rfl fun a E => ?_
    refine l_val E ok (y_assign rfl) rfl rfl fun a E => ?_
    refine wpList_nil ?_
    refine t_norm ?_
    refine wp_ret ?_
    have hret : calqueref26_Selection_R u m0 S true a w := ⟨ok, E.d, ⟨rv_t E rfl, trivial⟩⟩
    obtain rfl := Option.some.inj hF
    exact fin _ _ hret
  replace hF := cond_f hc1 hF
  replace E := E.upd 5 hc1 rfl
  refine l_val E ok (y_move rfl) rfl rfl fun a E => ?_
  refine l_val E ok (y_eql rfl rfl) rfl rfl fun a E => ?_
  refine l_val E ok (y_pickF rfl rfl) rfl rfl fun a E => ?_
  refine l_val E ok (y_move rfl) rfl rfl fun a E => ?_
  refine bsplit (kind_0 == 8) (fun hc2 => ?_) (fun hc2 => ?_)
  · replace hF := cond_t hc2 hF
    replace E := E.upd 9 hc2 rfl
    iterate 2 refine l_skip E rfl rfl fun a E => ?_
    refine l_val E ok (y_pickT rfl rfl) rfl rfl fun a E => ?_
    refine l_val E ok (y_assign rfl) rfl rfl fun a E => ?_
    refine wpList_nil ?_
    refine t_norm ?_
    refine wp_ret ?_
    have hret : calqueref26_Selection_R u m0 S true a w := ⟨ok, E.d, ⟨rv_t E rfl, trivial⟩⟩
    obtain rfl := Option.some.inj hF
    exact fin _ _ hret
  replace hF := cond_f hc2 hF
  replace E := E.upd 9 hc2 rfl
  refine l_val E ok (y_move rfl) rfl rfl fun a E => ?_
  refine l_val E ok (y_eql rfl rfl) rfl rfl fun a E => ?_
  refine l_val E ok (y_pickF rfl rfl) rfl rfl fun a E => ?_
  refine l_val E ok (y_assign rfl) rfl rfl fun a E => ?_
  refine wpList_nil ?_
  refine t_norm ?_
  refine wp_ret ?_
  have hret : calqueref26_Selection_R u m0 S (kind_0 == 9) a w := ⟨ok, E.d, ⟨rv_t E rfl, trivial⟩⟩
  obtain rfl := Option.some.inj hF
  exact fin _ _ hret

def calqueref26_Class_R (u : World) (m0 : Mem) (S : Segs) (r : Bool) (a : Act) (w : World) : Prop :=
  Ok u m0 S w ∧ a.defers = [] ∧ RVs Tryd.prog a w [.t 2 (.bool r)]
set_option maxHeartbeats 4000000 in
set_option maxRecDepth 100000 in
theorem calqueref26_Class_w {u : World} {m0 : Mem} {S : Segs} {w : World} (N : Nat) (s_0 : List UInt8) (ls_0 : s_0.length ≤ LIMS) {r : Bool} (hF : calqueref26_Class N s_0 = some r) (hG : Glob u) (ok : Ok u m0 S w) :
    Calls Tryd.prog 45 [Value.string (bs s_0)].toArray w fun e w' => (e = .returned (.bool r) ∧ Ok u m0 S w') := by
  have hb0 := ok.base
  have le_m0 := Mem.le.refl m0
  unfold calqueref26_Class at hF
  have fin : ∀ a w, calqueref26_Class_R u m0 S r a w → bodyPost Tryd.prog Tryd.f45 (fun e w' => (e = .returned (.bool r) ∧ Ok u m0 S w')) .ret a w := by
    intro a w h
    obtain ⟨ok, hd, hrv⟩ := h
    exact c_ret2 [.t 2 (.bool r)] hd rfl hrv ⟨rfl, ok⟩
  refine enter Tryd.func45 rfl rfl rfl fun a E => ?_
  refine wp_seq ?_
  refine c_region ?_
  refine l_val E ok (y_assign rfl) rfl rfl fun a E => ?_
  refine wpList_nil ?_
  refine t_norm ?_
  refine wp_seq ?_
  refine c_region ?_
  refine l_val E ok (y_move rfl) rfl rfl fun a E => ?_
  refine l_val E ok (y_seql rfl rfl) rfl rfl fun a E => ?_
  refine l_val E ok (y_move rfl) rfl rfl fun a E => ?_
  refine bsplit (s_0 == ([122, 101, 114, 111])) (fun hc1 => ?_) (fun hc1 => ?_)
  · replace hF := cond_t hc1 hF
    replace E := E.upd 5 hc1 rfl
    iterate 2 refine l_skip E rfl rfl fun a E => ?_
    refine l_val E ok (y_pickT rfl rfl) rfl rfl fun a E => ?_
    refine l_val E ok (y_move rfl) rfl rfl fun a E => ?_
    iterate 2 refine l_skip E rfl rfl fun a E => ?_
    refine l_val E ok (y_pickT rfl rfl) rfl rfl fun a E => ?_
    refine l_val E ok (y_move rfl) rfl rfl fun a E => ?_
    iterate 2 refine l_skip E rfl rfl fun a E => ?_
    refine l_val E ok (y_pickT rfl rfl) rfl rfl fun a E => ?_
    refine l_val E ok (y_move rfl) rfl rfl fun a E => ?_
    iterate 2 refine l_skip E rfl rfl fun a E => ?_
    refine l_val E ok (y_pickT rfl rfl) rfl rfl fun a E => ?_
    refine l_val E ok (y_move rfl) rfl rfl fun a E => ?_
    iterate 2 refine l_skip E rfl rfl fun a E => ?_
    refine l_val E ok (y_pickT rfl rfl) rfl rfl fun a E => ?_
    refine l_val E ok (y_assign rfl) rfl rfl fun a E => ?_
    refine wpList_nil ?_
    refine t_norm ?_
    refine wp_ret ?_
    have hret : calqueref26_Class_R u m0 S true a w := ⟨ok, E.d, ⟨rv_t E rfl, trivial⟩⟩
    obtain rfl := Option.some.inj hF
    exact fin _ _ hret
  replace hF := cond_f hc1 hF
  replace E := E.upd 5 hc1 rfl
  refine l_val E ok (y_move rfl) rfl rfl fun a E => ?_
  refine l_val E ok (y_seql rfl rfl) rfl rfl fun a E => ?_
  refine l_val E ok (y_pickF rfl rfl) rfl rfl fun a E => ?_
  refine l_val E ok (y_move rfl) rfl rfl fun a E => ?_
  refine bsplit (s_0 == ([111, 110, 101])) (fun hc2 => ?_) (fun hc2 => ?_)
  · replace hF := cond_t hc2 hF
    replace E := E.upd 9 hc2 rfl
    iterate 2 refine l_skip E rfl rfl fun a E => ?_
    refine l_val E ok (y_pickT rfl rfl) rfl rfl fun a E => ?_
    refine l_val E ok (y_move rfl) rfl rfl fun a E => ?_
    iterate 2 refine l_skip E rfl rfl fun a E => ?_
    refine l_val E ok (y_pickT rfl rfl) rfl rfl fun a E => ?_
    refine l_val E ok (y_move rfl) rfl rfl fun a E => ?_
    iterate 2 refine l_skip E rfl rfl fun a E => ?_
    refine l_val E ok (y_pickT rfl rfl) rfl rfl fun a E => ?_
    refine l_val E ok (y_move rfl) rfl rfl fun a E => ?_
    iterate 2 refine l_skip E rfl rfl fun a E => ?_
    refine l_val E ok (y_pickT rfl rfl) rfl rfl fun a E => ?_
    refine l_val E ok (y_assign rfl) rfl rfl fun a E => ?_
    refine wpList_nil ?_
    refine t_norm ?_
    refine wp_ret ?_
    have hret : calqueref26_Class_R u m0 S true a w := ⟨ok, E.d, ⟨rv_t E rfl, trivial⟩⟩
    obtain rfl := Option.some.inj hF
    exact fin _ _ hret
  replace hF := cond_f hc2 hF
  replace E := E.upd 9 hc2 rfl
  refine l_val E ok (y_move rfl) rfl rfl fun a E => ?_
  refine l_val E ok (y_seql rfl rfl) rfl rfl fun a E => ?_
  refine l_val E ok (y_pickF rfl rfl) rfl rfl fun a E => ?_
  refine l_val E ok (y_move rfl) rfl rfl fun a E => ?_
  refine bsplit (s_0 == ([116, 119, 111])) (fun hc3 => ?_) (fun hc3 => ?_)
  · replace hF := cond_t hc3 hF
    replace E := E.upd 13 hc3 rfl
    iterate 2 refine l_skip E rfl rfl fun a E => ?_
    refine l_val E ok (y_pickT rfl rfl) rfl rfl fun a E => ?_
    refine l_val E ok (y_move rfl) rfl rfl fun a E => ?_
    iterate 2 refine l_skip E rfl rfl fun a E => ?_
    refine l_val E ok (y_pickT rfl rfl) rfl rfl fun a E => ?_
    refine l_val E ok (y_move rfl) rfl rfl fun a E => ?_
    iterate 2 refine l_skip E rfl rfl fun a E => ?_
    refine l_val E ok (y_pickT rfl rfl) rfl rfl fun a E => ?_
    refine l_val E ok (y_assign rfl) rfl rfl fun a E => ?_
    refine wpList_nil ?_
    refine t_norm ?_
    refine wp_ret ?_
    have hret : calqueref26_Class_R u m0 S true a w := ⟨ok, E.d, ⟨rv_t E rfl, trivial⟩⟩
    obtain rfl := Option.some.inj hF
    exact fin _ _ hret
  replace hF := cond_f hc3 hF
  replace E := E.upd 13 hc3 rfl
  refine l_val E ok (y_move rfl) rfl rfl fun a E => ?_
  refine l_val E ok (y_seql rfl rfl) rfl rfl fun a E => ?_
  refine l_val E ok (y_pickF rfl rfl) rfl rfl fun a E => ?_
  refine l_val E ok (y_move rfl) rfl rfl fun a E => ?_
  refine bsplit (s_0 == ([102, 101, 119])) (fun hc4 => ?_) (fun hc4 => ?_)
  · replace hF := cond_t hc4 hF
    replace E := E.upd 17 hc4 rfl
    iterate 2 refine l_skip E rfl rfl fun a E => ?_
    refine l_val E ok (y_pickT rfl rfl) rfl rfl fun a E => ?_
    refine l_val E ok (y_move rfl) rfl rfl fun a E => ?_
    iterate 2 refine l_skip E rfl rfl fun a E => ?_
    refine l_val E ok (y_pickT rfl rfl) rfl rfl fun a E => ?_
    refine l_val E ok (y_assign rfl) rfl rfl fun a E => ?_
    refine wpList_nil ?_
    refine t_norm ?_
    refine wp_ret ?_
    have hret : calqueref26_Class_R u m0 S true a w := ⟨ok, E.d, ⟨rv_t E rfl, trivial⟩⟩
    obtain rfl := Option.some.inj hF
    exact fin _ _ hret
  replace hF := cond_f hc4 hF
  replace E := E.upd 17 hc4 rfl
  refine l_val E ok (y_move rfl) rfl rfl fun a E => ?_
  refine l_val E ok (y_seql rfl rfl) rfl rfl fun a E => ?_
  refine l_val E ok (y_pickF rfl rfl) rfl rfl fun a E => ?_
  refine l_val E ok (y_move rfl) rfl rfl fun a E => ?_
  refine bsplit (s_0 == ([109, 97, 110, 121])) (fun hc5 => ?_) (fun hc5 => ?_)
  · replace hF := cond_t hc5 hF
    replace E := E.upd 21 hc5 rfl
    iterate 2 refine l_skip E rfl rfl fun a E => ?_
    refine l_val E ok (y_pickT rfl rfl) rfl rfl fun a E => ?_
    refine l_val E ok (y_assign rfl) rfl rfl fun a E => ?_
    refine wpList_nil ?_
    refine t_norm ?_
    refine wp_ret ?_
    have hret : calqueref26_Class_R u m0 S true a w := ⟨ok, E.d, ⟨rv_t E rfl, trivial⟩⟩
    obtain rfl := Option.some.inj hF
    exact fin _ _ hret
  replace hF := cond_f hc5 hF
  replace E := E.upd 21 hc5 rfl
  refine l_val E ok (y_move rfl) rfl rfl fun a E => ?_
  refine l_val E ok (y_seql rfl rfl) rfl rfl fun a E => ?_
  refine l_val E ok (y_pickF rfl rfl) rfl rfl fun a E => ?_
  refine l_val E ok (y_assign rfl) rfl rfl fun a E => ?_
  refine wpList_nil ?_
  refine t_norm ?_
  refine wp_ret ?_
  have hret : calqueref26_Class_R u m0 S (s_0 == ([111, 116, 104, 101, 114])) a w := ⟨ok, E.d, ⟨rv_t E rfl, trivial⟩⟩
  obtain rfl := Option.some.inj hF
  exact fin _ _ hret

def calqueref07_digits_R (u : World) (m0 : Mem) (S : Segs) (r : Bool) (a : Act) (w : World) : Prop :=
  Ok u m0 S w ∧ a.defers = [] ∧ RVs Tryd.prog a w [.t 2 (.bool r)]
set_option maxHeartbeats 4000000 in
set_option maxRecDepth 100000 in
theorem calqueref07_digits_w {u : World} {m0 : Mem} {S : Segs} {w : World} (N : Nat) (s_0 : List UInt8) (ls_0 : s_0.length ≤ LIMS) {r : Bool} (hF : calqueref07_digits N s_0 = some r) (hG : Glob u) (ok : Ok u m0 S w) :
    Calls Tryd.prog 58 [Value.string (bs s_0)].toArray w fun e w' => (e = .returned (.bool r) ∧ Ok u m0 S w') := by
  have hb0 := ok.base
  have le_m0 := Mem.le.refl m0
  unfold calqueref07_digits at hF
  have fin : ∀ a w, calqueref07_digits_R u m0 S r a w → bodyPost Tryd.prog Tryd.f58 (fun e w' => (e = .returned (.bool r) ∧ Ok u m0 S w')) .ret a w := by
    intro a w h
    obtain ⟨ok, hd, hrv⟩ := h
    exact c_ret2 [.t 2 (.bool r)] hd rfl hrv ⟨rfl, ok⟩
  refine enter Tryd.func58 rfl rfl rfl fun a E => ?_
  refine wp_seq ?_
  refine c_region ?_
  refine l_val E ok (y_assign rfl) rfl rfl fun a E => ?_
  refine wpList_nil ?_
  refine t_norm ?_
  refine wp_seq ?_
  refine wp_seq ?_
  refine c_region ?_
  refine l_val E ok (y_assign rfl) rfl rfl fun a E => ?_
  refine wpList_nil ?_
  refine t_norm ?_
  refine wp_block ?_
  obtain ⟨o2, hL, hF⟩ := bnd hF
  refine c_loop _ (fun (s : Int) a w => Ok u m0 (S) w ∧ Env 20 a [(0, (Value.string (bs s_0))), (3, (Value.int .i64 s))] ∧ InR .i64 s) (fun (b : (Unit ⊕ Bool)) e a w => (Sum.elim (fun b13 => e = (.exit 0) ∧ Ok u m0 (S) w ∧ Env 20 a []) (fun b14 => e = .ret ∧ calqueref07_digits_R u m0 S b14 a w)) b) ?_ ?_ N _ a w hL ⟨ok, E.keep [0, 3], (show InR .i64 (0) by decide)⟩
  rotate_left
  · intro e a w _ hO
    rcases o2 with o2 | o2
    rotate_left
    · replace hF := elim_r hF
      obtain ⟨rfl, hret⟩ := hO
      refine b_ret ?_
      refine t_ret ?_
      obtain rfl := Option.some.inj hF
      exact fin _ _ hret
    replace hF := elim_l hF
    obtain ⟨rfl, ok, E⟩ := hO
    refine b_hit ?_
    refine t_norm ?_
    refine wp_seq ?_
    refine c_region ?_
    refine l_val E ok (y_assign rfl) rfl rfl fun a E => ?_
    refine wpList_nil ?_
    refine t_norm ?_
    refine wp_ret ?_
    have hret : calqueref07_digits_R u m0 S true a w := ⟨ok, E.d, ⟨rv_t E rfl, trivial⟩⟩
    obtain rfl := Option.some.inj hF
    exact fin _ _ hret
  rintro i_4 a w r ⟨ok, E, r5⟩ hF
  replace hF : calqueref07_digits_b1 N s_0 i_4 = some r := hF
  unfold calqueref07_digits_b1 at hF
  refine wp_seq ?_
  refine wp_seq ?_
  refine c_region ?_
  refine l_val E ok (y_move rfl) rfl rfl fun a E => ?_
  refine l_val E ok (y_move rfl) rfl rfl fun a E => ?_
  refine l_val E ok (y_slen Tryd.underlying9 rfl) rfl rfl fun a E => ?_
  refine l_val E ok (y_lss rfl rfl) rfl rfl fun a E => ?_
  refine wpList_nil ?_
  refine t_norm ?_
  refine c_if E rfl (fun hc6 => ?_) (fun hc6 => ?_)
  rotate_left
  · replace hF := cond_f hc6 hF
    refine wp_exit ?_
    refine t_exit ?_
    obtain rfl := Option.some.inj hF
    exact step_o (by nofun) (sl ⟨rfl, ⟨ok, E.keep []⟩⟩)
  replace hF := cond_t hc6 hF
  refine wp_skip ?_
  refine t_norm ?_
  refine wp_seq ?_
  refine wp_block ?_
  refine wp_seq ?_
  refine c_region ?_
  refine l_val E ok (y_move rfl) rfl rfl fun a E => ?_
  refine l_val E ok (y_move rfl) rfl rfl fun a E => ?_
  obtain ⟨c7, e8, hF⟩ := bnd hF
  refine l_val E ok (y_index Tryd.underlying9 rfl rfl e8) rfl rfl fun a E => ?_
  refine l_val E ok (y_lss rfl rfl) rfl rfl fun a E => ?_
  refine l_val E ok (y_move rfl) rfl rfl fun a E => ?_
  refine bsplit (decide ((c7.toNat : Int) < 48)) (fun hc9 => ?_) (fun hc9 => ?_)
  · replace hF := cond_t hc9 hF
    replace E := E.upd 14 hc9 rfl
    iterate 4 refine l_skip E rfl rfl fun a E => ?_
    refine l_val E ok (y_pickT rfl rfl) rfl rfl fun a E => ?_
    refine wpList_nil ?_
    refine t_norm ?_
    refine c_if E rfl (fun _ => ?_) (fun h => by cases h)
    refine wp_seq ?_
    refine c_region ?_
    refine l_val E ok (y_assign rfl) rfl rfl fun a E => ?_
    refine wpList_nil ?_
    refine t_norm ?_
    refine wp_ret ?_
    refine b_ret ?_
    refine t_ret ?_
    have hret : calqueref07_digits_R u m0 S false a w := ⟨ok, E.d, ⟨rv_t E rfl, trivial⟩⟩
    obtain rfl := Option.some.inj hF
    exact step_o (by nofun) (sr ⟨rfl, hret⟩)
  replace hF := cond_f hc9 hF
  replace E := E.upd 14 hc9 rfl
  refine l_val E ok (y_move rfl) rfl rfl fun a E => ?_
  refine l_val E ok (y_move rfl) rfl rfl fun a E => ?_
  obtain ⟨c10, e11, hF⟩ := bnd hF
  refine l_val E ok (y_index Tryd.underlying9 rfl rfl e11) rfl rfl fun a E => ?_
  refine l_val E ok (y_gtr rfl rfl) rfl rfl fun a E => ?_
  refine l_val E ok (y_pickF rfl rfl) rfl rfl fun a E => ?_
  refine wpList_nil ?_
  refine t_norm ?_
  refine c_if E rfl (fun hc12 => ?_) (fun hc12 => ?_)
  rotate_left
  · replace hF := cond_f hc12 hF
    refine wp_skip ?_
    refine b_norm ?_
    refine t_norm ?_
    refine c_region ?_
    refine l_val E ok (y_move rfl) rfl rfl fun a E => ?_
    refine l_val E ok (y_add rfl rfl (InR.inc r5 (InR.len ls_0) hc6)) rfl rfl fun a E => ?_
    refine l_val E ok (y_assign rfl) rfl rfl fun a E => ?_
    refine wpList_nil ?_
    obtain rfl := Option.some.inj hF
    exact step_n ⟨ok, E.keep [0, 3], (InR.inc r5 (InR.len ls_0) hc6)⟩
  replace hF := cond_t hc12 hF
  refine wp_seq ?_
  refine c_region ?_
  refine l_val E ok (y_assign rfl) rfl rfl fun a E => ?_
  refine wpList_nil ?_
  refine t_norm ?_
  refine wp_ret ?_
  refine b_ret ?_
  refine t_ret ?_
  have hret : calqueref07_digits_R u m0 S false a w := ⟨ok, E.d, ⟨rv_t E rfl, trivial⟩⟩
  obtain rfl := Option.some.inj hF
  exact step_o (by nofun) (sr ⟨rfl, hret⟩)

def calqueref07_Zero_R (u : World) (m0 : Mem) (S : Segs) (r : Bool) (a : Act) (w : World) : Prop :=
  Ok u m0 S w ∧ a.defers = [] ∧ RVs Tryd.prog a w [.t 2 (.bool r)]
set_option maxHeartbeats 4000000 in
set_option maxRecDepth 100000 in
theorem calqueref07_Zero_w {u : World} {m0 : Mem} {S : Segs} {w : World} (N : Nat) (s_0 : List UInt8) (ls_0 : s_0.length ≤ LIMS) {r : Bool} (hF : calqueref07_Zero N s_0 = some r) (hG : Glob u) (ok : Ok u m0 S w) :
    Calls Tryd.prog 59 [Value.string (bs s_0)].toArray w fun e w' => (e = .returned (.bool r) ∧ Ok u m0 S w') := by
  have hb0 := ok.base
  have le_m0 := Mem.le.refl m0
  unfold calqueref07_Zero at hF
  have fin : ∀ a w, calqueref07_Zero_R u m0 S r a w → bodyPost Tryd.prog Tryd.f59 (fun e w' => (e = .returned (.bool r) ∧ Ok u m0 S w')) .ret a w := by
    intro a w h
    obtain ⟨ok, hd, hrv⟩ := h
    exact c_ret2 [.t 2 (.bool r)] hd rfl hrv ⟨rfl, ok⟩
  refine enter Tryd.func59 rfl rfl rfl fun a E => ?_
  refine wp_seq ?_
  refine c_region ?_
  refine l_val E ok (y_assign rfl) rfl rfl fun a E => ?_
  refine wpList_nil ?_
  refine t_norm ?_
  refine wp_seq ?_
  refine wp_seq ?_
  refine c_region ?_
  refine l_val E ok (y_assign rfl) rfl rfl fun a E => ?_
  refine wpList_nil ?_
  refine t_norm ?_
  refine wp_block ?_
  obtain ⟨o2, hL, hF⟩ := bnd hF
  refine c_loop _ (fun (s : Int) a w => Ok u m0 (S) w ∧ Env 14 a [(0, (Value.string (bs s_0))), (3, (Value.int .i64 s))] ∧ InR .i64 s) (fun (b : (Unit ⊕ Bool)) e a w => (Sum.elim (fun b10 => e = (.exit 0) ∧ Ok u m0 (S) w ∧ Env 14 a []) (fun b11 => e = .ret ∧ calqueref07_Zero_R u m0 S b11 a w)) b) ?_ ?_ N _ a w hL ⟨ok, E.keep [0, 3], (show InR .i64 (0) by decide)⟩
  rotate_left
  · intro e a w _ hO
    rcases o2 with o2 | o2
    rotate_left
    · replace hF := elim_r hF
      obtain ⟨rfl, hret⟩ := hO
      refine b_ret ?_
      refine t_ret ?_
      obtain rfl := Option.some.inj hF
      exact fin _ _ hret
    replace hF := elim_l hF
    obtain ⟨rfl, ok, E⟩ := hO
    refine b_hit ?_
    refine t_norm ?_
    refine wp_seq ?_
    refine c_region ?_
    refine l_val E ok (y_assign rfl) rfl rfl fun a E => ?_
    refine wpList_nil ?_
    refine t_norm ?_
    refine wp_ret ?_
    have hret : calqueref07_Zero_R u m0 S true a w := ⟨ok, E.d, ⟨rv_t E rfl, trivial⟩⟩
    obtain rfl := Option.some.inj hF
    exact fin _ _ hret
  rintro i_4 a w r ⟨ok, E, r5⟩ hF
  replace hF : calqueref07_Zero_b1 N s_0 i_4 = some r := hF
  unfold calqueref07_Zero_b1 at hF
  refine wp_seq ?_
  refine wp_seq ?_
  refine c_region ?_
  refine l_val E ok (y_move rfl) rfl rfl fun a E => ?_
  refine l_val E ok (y_move rfl) rfl rfl fun a E => ?_
  refine l_val E ok (y_slen Tryd.underlying9 rfl) rfl rfl fun a E => ?_
  refine l_val E ok (y_lss rfl rfl) rfl rfl fun a E => ?_
  refine wpList_nil ?_
  refine t_norm ?_
  refine c_if E rfl (fun hc6 => ?_) (fun hc6 => ?_)
  rotate_left
  · replace hF := cond_f hc6 hF
    refine wp_exit ?_
    refine t_exit ?_
    obtain rfl := Option.some.inj hF
    exact step_o (by nofun) (sl ⟨rfl, ⟨ok, E.keep []⟩⟩)
  replace hF := cond_t hc6 hF
  refine wp_skip ?_
  refine t_norm ?_
  refine wp_seq ?_
  refine wp_block ?_
  refine wp_seq ?_
  refine c_region ?_
  refine l_val E ok (y_move rfl) rfl rfl fun a E => ?_
  refine l_val E ok (y_move rfl) rfl rfl fun a E => ?_
  obtain ⟨c7, e8, hF⟩ := bnd hF
  refine l_val E ok (y_index Tryd.underlying9 rfl rfl e8) rfl rfl fun a E => ?_
  refine l_val E ok (y_neq rfl rfl) rfl rfl fun a E => ?_
  refine wpList_nil ?_
  refine t_norm ?_
  refine c_if E rfl (fun hc9 => ?_) (fun hc9 => ?_)
  rotate_left
  · replace hF := cond_f hc9 hF
    refine wp_skip ?_
    refine b_norm ?_
    refine t_norm ?_
    refine c_region ?_
    refine l_val E ok (y_move rfl) rfl rfl fun a E => ?_
    refine l_val E ok (y_add rfl rfl (InR.inc r5 (InR.len ls_0) hc6)) rfl rfl fun a E => ?_
    refine l_val E ok (y_assign rfl) rfl rfl fun a E => ?_
    refine wpList_nil ?_
    obtain rfl := Option.some.inj hF
    exact step_n ⟨ok, E.keep [0, 3], (InR.inc r5 (InR.len ls_0) hc6)⟩
  replace hF := cond_t hc9 hF
  refine wp_seq ?_
  refine c_region ?_
  refine l_val E ok (y_assign rfl) rfl rfl fun a E => ?_
  refine wpList_nil ?_
  refine t_norm ?_
  refine wp_ret ?_
  refine b_ret ?_
  refine t_ret ?_
  have hret : calqueref07_Zero_R u m0 S false a w := ⟨ok, E.d, ⟨rv_t E rfl, trivial⟩⟩
  obtain rfl := Option.some.inj hF
  exact step_o (by nofun) (sr ⟨rfl, hret⟩)

def calqueref07_Split_R (u : World) (m0 : Mem) (S : Segs) (r : Number2 × Bool) (a : Act) (w : World) : Prop :=
  ∃ m1 v0, m0.le m1 ∧ Ok u m1 S w ∧ a.defers = [] ∧ RVs Tryd.prog a w [.c 2 88 (.agg v0.toArray), .t 3 (.bool r.2)] ∧ pNumber2 m1 v0 r.1
set_option maxHeartbeats 4000000 in
set_option maxRecDepth 100000 in
theorem calqueref07_Split_w {u : World} {m0 : Mem} {S : Segs} {w : World} (N : Nat) (s_0 : List UInt8) (ls_0 : s_0.length ≤ LIMS) {r : Number2 × Bool} (hF : calqueref07_Split N s_0 = some r) (hG : Glob u) (ok : Ok u m0 S w) :
    Calls Tryd.prog 51 [Value.string (bs s_0)].toArray w fun e w' => ∃ m1 v0, e = .returned (.tuple [(.agg v0.toArray), (.bool r.2)].toArray) ∧ m0.le m1 ∧ Ok u m1 S w' ∧ pNumber2 m1 v0 r.1 := by
  have le_m0 := Mem.le.refl m0
  unfold calqueref07_Split at hF
  have fin : ∀ a w, calqueref07_Split_R u m0 S r a w → bodyPost Tryd.prog Tryd.f51 (fun e w' => ∃ m1 v0, e = .returned (.tuple [(.agg v0.toArray), (.bool r.2)].toArray) ∧ m0.le m1 ∧ Ok u m1 S w' ∧ pNumber2 m1 v0 r.1) .ret a w := by
    intro a w h
    obtain ⟨m1, v0, hle, ok, hd, hrv, h0⟩ := h
    exact c_ret2 [.c 2 88 (.agg v0.toArray), .t 3 (.bool r.2)] hd rfl hrv ⟨m1, v0, rfl, hle, ok, h0⟩
  refine enter Tryd.func51 rfl rfl rfl fun a E => ?_
  refine wp_seq ?_
  refine c_region ?_
  refine l_alloc E ok zero_88 rfl rfl fun b1 a w E ok => ?_
  refine l_val E ok (y_assign rfl) rfl rfl fun a E => ?_
  refine wpList_nil ?_
  refine t_norm ?_
  refine wp_seq ?_
  refine c_region ?_
  refine l_alloc E ok zero_88 rfl rfl fun b2 a w E ok => ?_
  refine wpList_nil ?_
  refine t_norm ?_
  refine wp_seq ?_
  refine wp_seq ?_
  refine c_region ?_
  refine l_val E ok (y_move rfl) rfl rfl fun a E => ?_
  refine l_val E ok (y_slen Tryd.underlying9 rfl) rfl rfl fun a E => ?_
  refine l_val E ok (y_gtr rfl rfl) rfl rfl fun a E => ?_
  refine l_val E ok (y_move rfl) rfl rfl fun a E => ?_
  refine bsplit (decide ((s_0.length : Int) > 0)) (fun hc3 => ?_) (fun hc3 => ?_)
  rotate_left
  · as_aux_lemma =>
      replace hF := cond_f hc3 hF
      replace E := E.upd 9 hc3 rfl
      iterate 3 refine l_skip E rfl rfl fun a E => ?_
      refine l_val E ok (y_pickF rfl rfl) rfl rfl fun a E => ?_
      refine wpList_nil ?_
      refine t_norm ?_
      refine c_if E rfl (fun h => by cases h) (fun _ => ?_)
      refine wp_skip ?_
      refine t_norm ?_
      refine wp_seq ?_
      refine c_region ?_
      refine l_val E ok (y_assign rfl) rfl rfl fun a E => ?_
      refine wpList_nil ?_
      refine t_norm ?_
      refine wp_seq ?_
      refine wp_block ?_
      obtain ⟨o73, hL, hF⟩ := bnd hF
      refine c_loop _ (fun (s : Int) a w => Ok u m0 ([(b2, Obj.cells [(Value.bool false), (Value.string (bs ([]))), (Value.string (bs ([])))].toArray 88 (0, 0))] :: [(b1, Obj.cells [(Value.bool false), (Value.string (bs ([]))), (Value.string (bs ([])))].toArray 88 (0, 0))] :: S) w ∧ Env 98 a [(0, (Value.string (bs s_0))), (2, (Value.pointer (some ⟨b1, 0, none⟩))), (4, (Value.pointer (some ⟨b2, 0, none⟩))), (5, (Value.int .i64 s))] ∧ InR .i64 s) (fun (b : Int) e a w => e = (.exit 0) ∧ Ok u m0 ([(b2, Obj.cells [(Value.bool false), (Value.string (bs ([]))), (Value.string (bs ([])))].toArray 88 (0, 0))] :: [(b1, Obj.cells [(Value.bool false), (Value.string (bs ([]))), (Value.string (bs ([])))].toArray 88 (0, 0))] :: S) w ∧ Env 98 a [(0, (Value.string (bs s_0))), (2, (Value.pointer (some ⟨b1, 0, none⟩))), (4, (Value.pointer (some ⟨b2, 0, none⟩))), (5, (Value.int .i64 b))] ∧ InR .i64 b) ?_ ?_ N _ a w hL ⟨ok, E.keep [0, 2, 4, 5], (show InR .i64 (0) by decide)⟩
      · rintro k_75 a w r ⟨ok, E, r76⟩ hF
        replace hF : calqueref07_Split_b2 N s_0 k_75 = some r := hF
        unfold calqueref07_Split_b2 at hF
        refine wp_seq ?_
        refine wp_seq ?_
        refine c_region ?_
        refine l_val E ok (y_move rfl) rfl rfl fun a E => ?_
        refine l_val E ok (y_move rfl) rfl rfl fun a E => ?_
        refine l_val E ok (y_slen Tryd.underlying9 rfl) rfl rfl fun a E => ?_
        refine l_val E ok (y_lss rfl rfl) rfl rfl fun a E => ?_
        refine l_val E ok (y_move rfl) rfl rfl fun a E => ?_
        refine bsplit (decide (k_75 < (s_0.length : Int))) (fun hc77 => ?_) (fun hc77 => ?_)
        rotate_left
        · replace hF := cond_f hc77 hF
          replace E := E.upd 21 hc77 rfl
          iterate 4 refine l_skip E rfl rfl fun a E => ?_
          refine l_val E ok (y_pickF rfl rfl) rfl rfl fun a E => ?_
          refine wpList_nil ?_
          refine t_norm ?_
          refine c_if E rfl (fun h => by cases h) (fun _ => ?_)
          refine wp_exit ?_
          refine t_exit ?_
          obtain rfl := Option.some.inj hF
          exact step_o (by nofun) (⟨rfl, ⟨ok, E.keep [0, 2, 4, 5], r76⟩⟩)
        replace hF := cond_t hc77 hF
        replace E := E.upd 21 hc77 rfl
        refine l_val E ok (y_move rfl) rfl rfl fun a E => ?_
        refine l_val E ok (y_move rfl) rfl rfl fun a E => ?_
        obtain ⟨c78, e79, hF⟩ := bnd hF
        refine l_val E ok (y_index Tryd.underlying9 rfl rfl e79) rfl rfl fun a E => ?_
        refine l_val E ok (y_neq rfl rfl) rfl rfl fun a E => ?_
        refine l_val E ok (y_pickT rfl rfl) rfl rfl fun a E => ?_
        refine wpList_nil ?_
        refine t_norm ?_
        refine c_if E rfl (fun hc80 => ?_) (fun hc80 => ?_)
        rotate_left
        · replace hF := cond_f hc80 hF
          refine wp_exit ?_
          refine t_exit ?_
          obtain rfl := Option.some.inj hF
          exact step_o (by nofun) (⟨rfl, ⟨ok, E.keep [0, 2, 4, 5], r76⟩⟩)
        replace hF := cond_t hc80 hF
        refine wp_skip ?_
        refine t_norm ?_
        refine wp_block ?_
        refine c_region ?_
        refine l_val E ok (y_move rfl) rfl rfl fun a E => ?_
        refine l_val E ok (y_add rfl rfl (InR.inc r76 (InR.len ls_0) hc77)) rfl rfl fun a E => ?_
        refine l_val E ok (y_assign rfl) rfl rfl fun a E => ?_
        refine wpList_nil ?_
        refine b_norm ?_
        obtain rfl := Option.some.inj hF
        exact step_n ⟨ok, E.keep [0, 2, 4, 5], (InR.inc r76 (InR.len ls_0) hc77)⟩
      intro e a w _ hO
      obtain ⟨rfl, ok, E, r81⟩ := hO
      refine b_hit ?_
      refine t_norm ?_
      refine wp_seq ?_
      refine c_region ?_
      refine l_val E ok (y_move rfl) rfl rfl fun a E => ?_
      refine l_val E ok (y_move rfl) rfl rfl fun a E => ?_
      obtain ⟨s82, e83, hF⟩ := bnd hF
      refine l_val E ok (y_sslice Tryd.underlying9 e83 rfl rfl ⟨_, rfl⟩) rfl rfl fun a E => ?_
      refine l_val E ok (y_fieldAddr fo_88_1 rfl) rfl rfl fun a E => ?_
      refine l_storeB E ok 0 rfl rfl rfl inf_9 rfl rfl ⟨rfl, trivial⟩ rfl rfl fun w ok => ?_
      refine wpList_nil ?_
      refine t_norm ?_
      refine wp_seq ?_
      refine wp_seq ?_
      refine c_region ?_
      refine l_val E ok (y_move rfl) rfl rfl fun a E => ?_
      refine l_val E ok (y_move rfl) rfl rfl fun a E => ?_
      refine l_val E ok (y_slen Tryd.underlying9 rfl) rfl rfl fun a E => ?_
      refine l_val E ok (y_lss rfl rfl) rfl rfl fun a E => ?_
      refine wpList_nil ?_
      refine t_norm ?_
      obtain ⟨o84, hJ, hF⟩ := bnd hF
      refine c_mono (Q' := fun e a w => (Sum.elim (fun b85 => e = .normal ∧ Ok u m0 ([(b2, Obj.cells [(Value.bool b85.Neg), (Value.string (bs b85.Whole)), (Value.string (bs b85.Frac))].toArray 88 (0, 0))] :: [(b1, Obj.cells [(Value.bool false), (Value.string (bs ([]))), (Value.string (bs ([])))].toArray 88 (0, 0))] :: S) w ∧ Env 98 a [(2, (Value.pointer (some ⟨b1, 0, none⟩))), (4, (Value.pointer (some ⟨b2, 0, none⟩)))] ∧ b85.Whole.length ≤ LIMS ∧ b85.Frac.length ≤ LIMS) (fun b88 => e = .ret ∧ calqueref07_Split_R u m0 S b88 a w)) o84) ?_ ?_
      · replace hF := hJ
        clear hJ
        refine c_if E rfl (fun hc89 => ?_) (fun hc89 => ?_)
        rotate_left
        · replace hF := cond_f hc89 hF
          refine wp_skip ?_
          obtain rfl := Option.some.inj hF
          exact (sl ⟨rfl, ⟨ok, E.keep [2, 4], (Nat.le_trans (slc_len e83) ls_0), (Nat.zero_le _)⟩⟩)
        replace hF := cond_t hc89 hF
        refine wp_seq ?_
        refine c_region ?_
        refine l_val E ok (y_move rfl) rfl rfl fun a E => ?_
        refine l_val E ok (y_move rfl) rfl rfl fun a E => ?_
        refine l_val E ok (y_add rfl rfl (InR.inc r81 (InR.len ls_0) hc89)) rfl rfl fun a E => ?_
        obtain ⟨s90, e91, hF⟩ := bnd hF
        refine l_val E ok (y_sslice Tryd.underlying9 e91 rfl ⟨_, rfl⟩ rfl) rfl rfl fun a E => ?_
        refine l_val E ok (y_fieldAddr fo_88_2 rfl) rfl rfl fun a E => ?_
        refine l_storeB E ok 0 rfl rfl rfl inf_9 rfl rfl ⟨rfl, trivial⟩ rfl rfl fun w ok => ?_
        refine wpList_nil ?_
        refine t_norm ?_
        refine wp_seq ?_
        refine c_region ?_
        refine l_val E ok (y_fieldAddr fo_88_2 rfl) rfl rfl fun a E => ?_
        refine l_val E ok (y_load one_9 rfl (Holds.own 0 rfl rfl)) rfl rfl fun a E => ?_
        refine l_val E ok (y_slen Tryd.underlying9 rfl) rfl rfl fun a E => ?_
        refine l_val E ok (y_eql rfl rfl) rfl rfl fun a E => ?_
        refine wpList_nil ?_
        refine t_norm ?_
        refine c_if E rfl (fun hc92 => ?_) (fun hc92 => ?_)
        rotate_left
        · replace hF := cond_f hc92 hF
          refine wp_skip ?_
          obtain rfl := Option.some.inj hF
          exact (sl ⟨rfl, ⟨ok, E.keep [2, 4], (Nat.le_trans (slc_len e83) ls_0), (Nat.le_trans (slc_len e91) ls_0)⟩⟩)
        replace hF := cond_t hc92 hF
        refine wp_seq ?_
        refine c_region ?_
        refine l_val E ok (y_build (ps := []) (qs := []) (cs := [(Value.bool false), (Value.string (bs ([]))), (Value.string (bs ([])))]) zero_88 places_88 rfl trivial rfl) rfl rfl fun a E => ?_
        refine l_storeB E ok 1 rfl rfl rfl inf_88 rfl rfl ⟨rfl, rfl, rfl, trivial⟩ rfl rfl fun w ok => ?_
        refine l_val E ok (y_assign rfl) rfl rfl fun a E => ?_
        refine wpList_nil ?_
        refine t_norm ?_
        refine wp_ret ?_
        have hret : calqueref07_Split_R u m0 S ((Number2.mk false ([]) ([])), false) a w := ⟨m0, [(Value.bool false), (Value.string (bs ([]))), (Value.string (bs ([])))], le_m0, ok.drop.drop, E.d, ⟨rv_c (cs := [(Value.bool false), (Value.string (bs ([]))), (Value.string (bs ([])))]) E ok rfl agg_88 rfl (Holds.own 1 rfl rfl), rv_t E rfl, trivial⟩, ⟨rfl, (Nat.zero_le _), (Nat.zero_le _)⟩⟩
        obtain rfl := Option.some.inj hF
        exact (sr ⟨rfl, hret⟩)
      clear hJ
      intro e a w hO
      rcases o84 with o84 | o84
      rotate_left
      · replace hF := elim_r hF
        obtain ⟨rfl, hret⟩ := hO
        refine t_ret ?_
        obtain rfl := Option.some.inj hF
        exact fin _ _ hret
      replace hF := elim_l hF
      obtain ⟨rfl, ok, E, l93, l94⟩ := hO
      refine t_norm ?_
      refine wp_seq ?_
      refine wp_seq ?_
      refine c_region ?_
      refine l_val E ok (y_fieldAddr fo_88_1 rfl) rfl rfl fun a E => ?_
      refine l_val E ok (y_load one_9 rfl (Holds.own 0 rfl rfl)) rfl rfl fun a E => ?_
      refine l_val E ok (y_fieldAddr fo_88_2 rfl) rfl rfl fun a E => ?_
      refine l_val E ok (y_load one_9 rfl (Holds.own 0 rfl rfl)) rfl rfl fun a E => ?_
      obtain ⟨s95, e96, hF⟩ := bnd hF
      refine l_val E ok (y_cat rfl rfl e96) rfl rfl fun a E => ?_
      obtain ⟨r97, e98, hF⟩ := bnd hF
      refine l_call E go_58 rfl (calqueref07_digits_w N s95 (cat_len e96) e98 hG ok) rfl rfl ?_
      rintro _ w ⟨rfl, ok⟩
      refine ⟨_, rfl, fun a E => ?_⟩
      refine l_val E ok (y_not rfl) rfl rfl fun a E => ?_
      refine l_val E ok (y_move rfl) rfl rfl fun a E => ?_
      refine bsplit (!r97) (fun hc99 => ?_) (fun hc99 => ?_)
      · replace hF := cond_t hc99 hF
        replace E := E.upd 54 hc99 rfl
        iterate 4 refine l_skip E rfl rfl fun a E => ?_
        refine l_val E ok (y_pickT rfl rfl) rfl rfl fun a E => ?_
        refine l_val E ok (y_move rfl) rfl rfl fun a E => ?_
        iterate 4 refine l_skip E rfl rfl fun a E => ?_
        refine l_val E ok (y_pickT rfl rfl) rfl rfl fun a E => ?_
        refine l_val E ok (y_move rfl) rfl rfl fun a E => ?_
        iterate 10 refine l_skip E rfl rfl fun a E => ?_
        refine l_val E ok (y_pickT rfl rfl) rfl rfl fun a E => ?_
        refine l_val E ok (y_move rfl) rfl rfl fun a E => ?_
        iterate 4 refine l_skip E rfl rfl fun a E => ?_
        refine l_val E ok (y_pickT rfl rfl) rfl rfl fun a E => ?_
        refine l_val E ok (y_move rfl) rfl rfl fun a E => ?_
        iterate 10 refine l_skip E rfl rfl fun a E => ?_
        refine l_val E ok (y_pickT rfl rfl) rfl rfl fun a E => ?_
        refine wpList_nil ?_
        refine t_norm ?_
        refine c_if E rfl (fun _ => ?_) (fun h => by cases h)
        refine wp_seq ?_
        refine c_region ?_
        refine l_val E ok (y_build (ps := []) (qs := []) (cs := [(Value.bool false), (Value.string (bs ([]))), (Value.string (bs ([])))]) zero_88 places_88 rfl trivial rfl) rfl rfl fun a E => ?_
        refine l_storeB E ok 1 rfl rfl rfl inf_88 rfl rfl ⟨rfl, rfl, rfl, trivial⟩ rfl rfl fun w ok => ?_
        refine l_val E ok (y_assign rfl) rfl rfl fun a E => ?_
        refine wpList_nil ?_
        refine t_norm ?_
        refine wp_ret ?_
        refine t_ret ?_
        have hret : calqueref07_Split_R u m0 S ((Number2.mk false ([]) ([])), false) a w := ⟨m0, [(Value.bool false), (Value.string (bs ([]))), (Value.string (bs ([])))], le_m0, ok.drop.drop, E.d, ⟨rv_c (cs := [(Value.bool false), (Value.string (bs ([]))), (Value.string (bs ([])))]) E ok rfl agg_88 rfl (Holds.own 1 rfl rfl), rv_t E rfl, trivial⟩, ⟨rfl, (Nat.zero_le _), (Nat.zero_le _)⟩⟩
        obtain rfl := Option.some.inj hF
        exact fin _ _ hret
      replace hF := cond_f hc99 hF
      replace E := E.upd 54 hc99 rfl
      refine l_val E ok (y_fieldAddr fo_88_1 rfl) rfl rfl fun a E => ?_
      refine l_val E ok (y_load one_9 rfl (Holds.own 0 rfl rfl)) rfl rfl fun a E => ?_
      refine l_val E ok (y_slen Tryd.underlying9 rfl) rfl rfl fun a E => ?_
      refine l_val E ok (y_lss rfl rfl) rfl rfl fun a E => ?_
      refine l_val E ok (y_pickF rfl rfl) rfl rfl fun a E => ?_
      refine l_val E ok (y_move rfl) rfl rfl fun a E => ?_
      refine bsplit (decide ((o84.Whole.length : Int) < 1)) (fun hc100 => ?_) (fun hc100 => ?_)
      · replace hF := cond_t hc100 hF
        replace E := E.upd 60 hc100 rfl
        iterate 4 refine l_skip E rfl rfl fun a E => ?_
        refine l_val E ok (y_pickT rfl rfl) rfl rfl fun a E => ?_
        refine l_val E ok (y_move rfl) rfl rfl fun a E => ?_
        iterate 10 refine l_skip E rfl rfl fun a E => ?_
        refine l_val E ok (y_pickT rfl rfl) rfl rfl fun a E => ?_
        refine l_val E ok (y_move rfl) rfl rfl fun a E => ?_
        iterate 4 refine l_skip E rfl rfl fun a E => ?_
        refine l_val E ok (y_pickT rfl rfl) rfl rfl fun a E => ?_
        refine l_val E ok (y_move rfl) rfl rfl fun a E => ?_
        iterate 10 refine l_skip E rfl rfl fun a E => ?_
        refine l_val E ok (y_pickT rfl rfl) rfl rfl fun a E => ?_
        refine wpList_nil ?_
        refine t_norm ?_
        refine c_if E rfl (fun _ => ?_) (fun h => by cases h)
        refine wp_seq ?_
        refine c_region ?_
        refine l_val E ok (y_build (ps := []) (qs := []) (cs := [(Value.bool false), (Value.string (bs ([]))), (Value.string (bs ([])))]) zero_88 places_88 rfl trivial rfl) rfl rfl fun a E => ?_
        refine l_storeB E ok 1 rfl rfl rfl inf_88 rfl rfl ⟨rfl, rfl, rfl, trivial⟩ rfl rfl fun w ok => ?_
        refine l_val E ok (y_assign rfl) rfl rfl fun a E => ?_
        refine wpList_nil ?_
        refine t_norm ?_
        refine wp_ret ?_
        refine t_ret ?_
        have hret : calqueref07_Split_R u m0 S ((Number2.mk false ([]) ([])), false) a w := ⟨m0, [(Value.bool false), (Value.string (bs ([]))), (Value.string (bs ([])))], le_m0, ok.drop.drop, E.d, ⟨rv_c (cs := [(Value.bool false), (Value.string (bs ([]))), (Value.string (bs ([])))]) E ok rfl agg_88 rfl (Holds.own 1 rfl rfl), rv_t E rfl, trivial⟩, ⟨rfl, (Nat.zero_le _), (Nat.zero_le _)⟩⟩
        obtain rfl := Option.some.inj hF
        exact fin _ _ hret
      replace hF := cond_f hc100 hF
      replace E := E.upd 60 hc100 rfl
      refine l_val E ok (y_fieldAddr fo_88_1 rfl) rfl rfl fun a E => ?_
      refine l_val E ok (y_load one_9 rfl (Holds.own 0 rfl rfl)) rfl rfl fun a E => ?_
      refine l_val E ok (y_slen Tryd.underlying9 rfl) rfl rfl fun a E => ?_
      refine l_val E ok (y_gtr rfl rfl) rfl rfl fun a E => ?_
      refine l_val E ok (y_pickF rfl rfl) rfl rfl fun a E => ?_
      refine l_val E ok (y_move rfl) rfl rfl fun a E => ?_
      refine bsplit (decide ((o84.Whole.length : Int) > 15)) (fun hc101 => ?_) (fun hc101 => ?_)
      · replace hF := cond_t hc101 hF
        replace E := E.upd 66 hc101 rfl
        iterate 10 refine l_skip E rfl rfl fun a E => ?_
        refine l_val E ok (y_pickT rfl rfl) rfl rfl fun a E => ?_
        refine l_val E ok (y_move rfl) rfl rfl fun a E => ?_
        iterate 4 refine l_skip E rfl rfl fun a E => ?_
        refine l_val E ok (y_pickT rfl rfl) rfl rfl fun a E => ?_
        refine l_val E ok (y_move rfl) rfl rfl fun a E => ?_
        iterate 10 refine l_skip E rfl rfl fun a E => ?_
        refine l_val E ok (y_pickT rfl rfl) rfl rfl fun a E => ?_
        refine wpList_nil ?_
        refine t_norm ?_
        refine c_if E rfl (fun _ => ?_) (fun h => by cases h)
        refine wp_seq ?_
        refine c_region ?_
        refine l_val E ok (y_build (ps := []) (qs := []) (cs := [(Value.bool false), (Value.string (bs ([]))), (Value.string (bs ([])))]) zero_88 places_88 rfl trivial rfl) rfl rfl fun a E => ?_
        refine l_storeB E ok 1 rfl rfl rfl inf_88 rfl rfl ⟨rfl, rfl, rfl, trivial⟩ rfl rfl fun w ok => ?_
        refine l_val E ok (y_assign rfl) rfl rfl fun a E => ?_
        refine wpList_nil ?_
        refine t_norm ?_
        refine wp_ret ?_
        refine t_ret ?_
        have hret : calqueref07_Split_R u m0 S ((Number2.mk false ([]) ([])), false) a w := ⟨m0, [(Value.bool false), (Value.string (bs ([]))), (Value.string (bs ([])))], le_m0, ok.drop.drop, E.d, ⟨rv_c (cs := [(Value.bool false), (Value.string (bs ([]))), (Value.string (bs ([])))]) E ok rfl agg_88 rfl (Holds.own 1 rfl rfl), rv_t E rfl, trivial⟩, ⟨rfl, (Nat.zero_le _), (Nat.zero_le _)⟩⟩
        obtain rfl := Option.some.inj hF
        exact fin _ _ hret
      replace hF := cond_f hc101 hF
      replace E := E.upd 66 hc101 rfl
      refine l_val E ok (y_fieldAddr fo_88_1 rfl) rfl rfl fun a E => ?_
      refine l_val E ok (y_load one_9 rfl (Holds.own 0 rfl rfl)) rfl rfl fun a E => ?_
      refine l_val E ok (y_slen Tryd.underlying9 rfl) rfl rfl fun a E => ?_
      refine l_val E ok (y_gtr rfl rfl) rfl rfl fun a E => ?_
      refine l_val E ok (y_move rfl) rfl rfl fun a E => ?_
      refine bsplit (decide ((o84.Whole.length : Int) > 1)) (fun hc102 => ?_) (fun hc102 => ?_)
      rotate_left
      · as_aux_lemma =>
          replace hF := cond_f hc102 hF
          replace E := E.upd 71 hc102 rfl
          iterate 4 refine l_skip E rfl rfl fun a E => ?_
          refine l_val E ok (y_pickF rfl rfl) rfl rfl fun a E => ?_
          refine l_val E ok (y_pickF rfl rfl) rfl rfl fun a E => ?_
          refine l_val E ok (y_move rfl) rfl rfl fun a E => ?_
          refine l_val E ok (y_fieldAddr fo_88_2 rfl) rfl rfl fun a E => ?_
          refine l_val E ok (y_load one_9 rfl (Holds.own 0 rfl rfl)) rfl rfl fun a E => ?_
          refine l_val E ok (y_slen Tryd.underlying9 rfl) rfl rfl fun a E => ?_
          refine l_val E ok (y_gtr rfl rfl) rfl rfl fun a E => ?_
          refine l_val E ok (y_pickF rfl rfl) rfl rfl fun a E => ?_
          refine l_val E ok (y_move rfl) rfl rfl fun a E => ?_
          refine bsplit (decide ((o84.Frac.length : Int) > 6)) (fun hc113 => ?_) (fun hc113 => ?_)
          · replace hF := cond_t hc113 hF
            replace E := E.upd 84 hc113 rfl
            iterate 10 refine l_skip E rfl rfl fun a E => ?_
            refine l_val E ok (y_pickT rfl rfl) rfl rfl fun a E => ?_
            refine wpList_nil ?_
            refine t_norm ?_
            refine c_if E rfl (fun _ => ?_) (fun h => by cases h)
            refine wp_seq ?_
            refine c_region ?_
            refine l_val E ok (y_build (ps := []) (qs := []) (cs := [(Value.bool false), (Value.string (bs ([]))), (Value.string (bs ([])))]) zero_88 places_88 rfl trivial rfl) rfl rfl fun a E => ?_
            refine l_storeB E ok 1 rfl rfl rfl inf_88 rfl rfl ⟨rfl, rfl, rfl, trivial⟩ rfl rfl fun w ok => ?_
            refine l_val E ok (y_assign rfl) rfl rfl fun a E => ?_
            refine wpList_nil ?_
            refine t_norm ?_
            refine wp_ret ?_
            refine t_ret ?_
            have hret : calqueref07_Split_R u m0 S ((Number2.mk false ([]) ([])), false) a w := ⟨m0, [(Value.bool false), (Value.string (bs ([]))), (Value.string (bs ([])))], le_m0, ok.drop.drop, E.d, ⟨rv_c (cs := [(Value.bool false), (Value.string (bs ([]))), (Value.string (bs ([])))]) E ok rfl agg_88 rfl (Holds.own 1 rfl rfl), rv_t E rfl, trivial⟩, ⟨rfl, (Nat.zero_le _), (Nat.zero_le _)⟩⟩
            obtain rfl := Option.some.inj hF
            exact fin _ _ hret
          replace hF := cond_f hc113 hF
          replace E := E.upd 84 hc113 rfl
          refine l_val E ok (y_fieldAddr fo_88_0 rfl) rfl rfl fun a E => ?_
          refine l_val E ok (y_load one_4 rfl (Holds.own 0 rfl rfl)) rfl rfl fun a E => ?_
          refine l_val E ok (y_move rfl) rfl rfl fun a E => ?_
          refine bsplit o84.Neg (fun hc114 => ?_) (fun hc114 => ?_)
          rotate_left
          · replace hF := cond_f hc114 hF
            replace E := E.upd 87 hc114 rfl
            iterate 6 refine l_skip E rfl rfl fun a E => ?_
            refine l_val E ok (y_pickF rfl rfl) rfl rfl fun a E => ?_
            refine l_val E ok (y_pickF rfl rfl) rfl rfl fun a E => ?_
            refine wpList_nil ?_
            refine t_norm ?_
            refine c_if E rfl (fun h => by cases h) (fun _ => ?_)
            refine wp_skip ?_
            refine t_norm ?_
            refine wp_seq ?_
            refine c_region ?_
            refine l_val E ok (y_loadAgg (cs := [(Value.bool o84.Neg), (Value.string (bs o84.Whole)), (Value.string (bs o84.Frac))]) agg_88 rfl rfl (Holds.own 0 rfl rfl)) rfl rfl fun a E => ?_
            refine l_storeB E ok 1 rfl rfl rfl inf_88 rfl rfl ⟨rfl, rfl, rfl, trivial⟩ rfl rfl fun w ok => ?_
            refine l_val E ok (y_assign rfl) rfl rfl fun a E => ?_
            refine wpList_nil ?_
            refine t_norm ?_
            refine wp_ret ?_
            have hret : calqueref07_Split_R u m0 S (o84, true) a w := ⟨m0, [(Value.bool o84.Neg), (Value.string (bs o84.Whole)), (Value.string (bs o84.Frac))], le_m0, ok.drop.drop, E.d, ⟨rv_c (cs := [(Value.bool o84.Neg), (Value.string (bs o84.Whole)), (Value.string (bs o84.Frac))]) E ok rfl agg_88 rfl (Holds.own 1 rfl rfl), rv_t E rfl, trivial⟩, ⟨rfl, l93, l94⟩⟩
            obtain rfl := Option.some.inj hF
            exact fin _ _ hret
          replace hF := cond_t hc114 hF
          replace E := E.upd 87 hc114 rfl
          refine l_val E ok (y_fieldAddr fo_88_1 rfl) rfl rfl fun a E => ?_
          refine l_val E ok (y_load one_9 rfl (Holds.own 0 rfl rfl)) rfl rfl fun a E => ?_
          refine l_val E ok (y_fieldAddr fo_88_2 rfl) rfl rfl fun a E => ?_
          refine l_val E ok (y_load one_9 rfl (Holds.own 0 rfl rfl)) rfl rfl fun a E => ?_
          obtain ⟨s115, e116, hF⟩ := bnd hF
          refine l_val E ok (y_cat rfl rfl e116) rfl rfl fun a E => ?_
          obtain ⟨r117, e118, hF⟩ := bnd hF
          refine l_call E go_59 rfl (calqueref07_Zero_w N s115 (cat_len e116) e118 hG ok) rfl rfl ?_
          rintro _ w ⟨rfl, ok⟩
          refine ⟨_, rfl, fun a E => ?_⟩
          refine l_val E ok (y_pickT rfl rfl) rfl rfl fun a E => ?_
          refine l_val E ok (y_pickF rfl rfl) rfl rfl fun a E => ?_
          refine wpList_nil ?_
          refine t_norm ?_
          refine c_if E rfl (fun hc119 => ?_) (fun hc119 => ?_)
          · replace hF := cond_t hc119 hF
            refine wp_seq ?_
            refine c_region ?_
            refine l_val E ok (y_build (ps := []) (qs := []) (cs := [(Value.bool false), (Value.string (bs ([]))), (Value.string (bs ([])))]) zero_88 places_88 rfl trivial rfl) rfl rfl fun a E => ?_
            refine l_storeB E ok 1 rfl rfl rfl inf_88 rfl rfl ⟨rfl, rfl, rfl, trivial⟩ rfl rfl fun w ok => ?_
            refine l_val E ok (y_assign rfl) rfl rfl fun a E => ?_
            refine wpList_nil ?_
            refine t_norm ?_
            refine wp_ret ?_
            refine t_ret ?_
            have hret : calqueref07_Split_R u m0 S ((Number2.mk false ([]) ([])), false) a w := ⟨m0, [(Value.bool false), (Value.string (bs ([]))), (Value.string (bs ([])))], le_m0, ok.drop.drop, E.d, ⟨rv_c (cs := [(Value.bool false), (Value.string (bs ([]))), (Value.string (bs ([])))]) E ok rfl agg_88 rfl (Holds.own 1 rfl rfl), rv_t E rfl, trivial⟩, ⟨rfl, (Nat.zero_le _), (Nat.zero_le _)⟩⟩
            obtain rfl := Option.some.inj hF
            exact fin _ _ hret
          replace hF := cond_f hc119 hF
          refine wp_skip ?_
          refine t_norm ?_
          refine wp_seq ?_
          refine c_region ?_
          refine l_val E ok (y_loadAgg (cs := [(Value.bool o84.Neg), (Value.string (bs o84.Whole)), (Value.string (bs o84.Frac))]) agg_88 rfl rfl (Holds.own 0 rfl rfl)) rfl rfl fun a E => ?_
          refine l_storeB E ok 1 rfl rfl rfl inf_88 rfl rfl ⟨rfl, rfl, rfl, trivial⟩ rfl rfl fun w ok => ?_
          refine l_val E ok (y_assign rfl) rfl rfl fun a E => ?_
          refine wpList_nil ?_
          refine t_norm ?_
          refine wp_ret ?_
          have hret : calqueref07_Split_R u m0 S (o84, true) a w := ⟨m0, [(Value.bool o84.Neg), (Value.string (bs o84.Whole)), (Value.string (bs o84.Frac))], le_m0, ok.drop.drop, E.d, ⟨rv_c (cs := [(Value.bool o84.Neg), (Value.string (bs o84.Whole)), (Value.string (bs o84.Frac))]) E ok rfl agg_88 rfl (Holds.own 1 rfl rfl), rv_t E rfl, trivial⟩, ⟨rfl, l93, l94⟩⟩
          obtain rfl := Option.some.inj hF
          exact fin _ _ hret
      replace hF := cond_t hc102 hF
      replace E := E.upd 71 hc102 rfl
      refine l_val E ok (y_fieldAddr fo_88_1 rfl) rfl rfl fun a E => ?_
      refine l_val E ok (y_load one_9 rfl (Holds.own 0 rfl rfl)) rfl rfl fun a E => ?_
      obtain ⟨c103, e104, hF⟩ := bnd hF
      refine l_val E ok (y_index Tryd.underlying9 rfl rfl e104) rfl rfl fun a E => ?_
      refine l_val E ok (y_eql rfl rfl) rfl rfl fun a E => ?_
      refine l_val E ok (y_pickT rfl rfl) rfl rfl fun a E => ?_
      refine l_val E ok (y_pickF rfl rfl) rfl rfl fun a E => ?_
      refine l_val E ok (y_move rfl) rfl rfl fun a E => ?_
      refine bsplit ((c103.toNat : Int) == 48) (fun hc105 => ?_) (fun hc105 => ?_)
      · replace hF := cond_t hc105 hF
        replace E := E.upd 78 hc105 rfl
        iterate 4 refine l_skip E rfl rfl fun a E => ?_
        refine l_val E ok (y_pickT rfl rfl) rfl rfl fun a E => ?_
        refine l_val E ok (y_move rfl) rfl rfl fun a E => ?_
        iterate 10 refine l_skip E rfl rfl fun a E => ?_
        refine l_val E ok (y_pickT rfl rfl) rfl rfl fun a E => ?_
        refine wpList_nil ?_
        refine t_norm ?_
        refine c_if E rfl (fun _ => ?_) (fun h => by cases h)
        refine wp_seq ?_
        refine c_region ?_
        refine l_val E ok (y_build (ps := []) (qs := []) (cs := [(Value.bool false), (Value.string (bs ([]))), (Value.string (bs ([])))]) zero_88 places_88 rfl trivial rfl) rfl rfl fun a E => ?_
        refine l_storeB E ok 1 rfl rfl rfl inf_88 rfl rfl ⟨rfl, rfl, rfl, trivial⟩ rfl rfl fun w ok => ?_
        refine l_val E ok (y_assign rfl) rfl rfl fun a E => ?_
        refine wpList_nil ?_
        refine t_norm ?_
        refine wp_ret ?_
        refine t_ret ?_
        have hret : calqueref07_Split_R u m0 S ((Number2.mk false ([]) ([])), false) a w := ⟨m0, [(Value.bool false), (Value.string (bs ([]))), (Value.string (bs ([])))], le_m0, ok.drop.drop, E.d, ⟨rv_c (cs := [(Value.bool false), (Value.string (bs ([]))), (Value.string (bs ([])))]) E ok rfl agg_88 rfl (Holds.own 1 rfl rfl), rv_t E rfl, trivial⟩, ⟨rfl, (Nat.zero_le _), (Nat.zero_le _)⟩⟩
        obtain rfl := Option.some.inj hF
        exact fin _ _ hret
      replace hF := cond_f hc105 hF
      replace E := E.upd 78 hc105 rfl
      refine l_val E ok (y_fieldAddr fo_88_2 rfl) rfl rfl fun a E => ?_
      refine l_val E ok (y_load one_9 rfl (Holds.own 0 rfl rfl)) rfl rfl fun a E => ?_
      refine l_val E ok (y_slen Tryd.underlying9 rfl) rfl rfl fun a E => ?_
      refine l_val E ok (y_gtr rfl rfl) rfl rfl fun a E => ?_
      refine l_val E ok (y_pickF rfl rfl) rfl rfl fun a E => ?_
      refine l_val E ok (y_move rfl) rfl rfl fun a E => ?_
      refine bsplit (decide ((o84.Frac.length : Int) > 6)) (fun hc106 => ?_) (fun hc106 => ?_)
      · replace hF := cond_t hc106 hF
        replace E := E.upd 84 hc106 rfl
        iterate 10 refine l_skip E rfl rfl fun a E => ?_
        refine l_val E ok (y_pickT rfl rfl) rfl rfl fun a E => ?_
        refine wpList_nil ?_
        refine t_norm ?_
        refine c_if E rfl (fun _ => ?_) (fun h => by cases h)
        refine wp_seq ?_
        refine c_region ?_
        refine l_val E ok (y_build (ps := []) (qs := []) (cs := [(Value.bool false), (Value.string (bs ([]))), (Value.string (bs ([])))]) zero_88 places_88 rfl trivial rfl) rfl rfl fun a E => ?_
        refine l_storeB E ok 1 rfl rfl rfl inf_88 rfl rfl ⟨rfl, rfl, rfl, trivial⟩ rfl rfl fun w ok => ?_
        refine l_val E ok (y_assign rfl) rfl rfl fun a E => ?_
        refine wpList_nil ?_
        refine t_norm ?_
        refine wp_ret ?_
        refine t_ret ?_
        have hret : calqueref07_Split_R u m0 S ((Number2.mk false ([]) ([])), false) a w := ⟨m0, [(Value.bool false), (Value.string (bs ([]))), (Value.string (bs ([])))], le_m0, ok.drop.drop, E.d, ⟨rv_c (cs := [(Value.bool false), (Value.string (bs ([]))), (Value.string (bs ([])))]) E ok rfl agg_88 rfl (Holds.own 1 rfl rfl), rv_t E rfl, trivial⟩, ⟨rfl, (Nat.zero_le _), (Nat.zero_le _)⟩⟩
        obtain rfl := Option.some.inj hF
        exact fin _ _ hret
      replace hF := cond_f hc106 hF
      replace E := E.upd 84 hc106 rfl
      refine l_val E ok (y_fieldAddr fo_88_0 rfl) rfl rfl fun a E => ?_
      refine l_val E ok (y_load one_4 rfl (Holds.own 0 rfl rfl)) rfl rfl fun a E => ?_
      refine l_val E ok (y_move rfl) rfl rfl fun a E => ?_
      refine bsplit o84.Neg (fun hc107 => ?_) (fun hc107 => ?_)
      rotate_left
      · replace hF := cond_f hc107 hF
        replace E := E.upd 87 hc107 rfl
        iterate 6 refine l_skip E rfl rfl fun a E => ?_
        refine l_val E ok (y_pickF rfl rfl) rfl rfl fun a E => ?_
        refine l_val E ok (y_pickF rfl rfl) rfl rfl fun a E => ?_
        refine wpList_nil ?_
        refine t_norm ?_
        refine c_if E rfl (fun h => by cases h) (fun _ => ?_)
        refine wp_skip ?_
        refine t_norm ?_
        refine wp_seq ?_
        refine c_region ?_
        refine l_val E ok (y_loadAgg (cs := [(Value.bool o84.Neg), (Value.string (bs o84.Whole)), (Value.string (bs o84.Frac))]) agg_88 rfl rfl (Holds.own 0 rfl rfl)) rfl rfl fun a E => ?_
        refine l_storeB E ok 1 rfl rfl rfl inf_88 rfl rfl ⟨rfl, rfl, rfl, trivial⟩ rfl rfl fun w ok => ?_
        refine l_val E ok (y_assign rfl) rfl rfl fun a E => ?_
        refine wpList_nil ?_
        refine t_norm ?_
        refine wp_ret ?_
        have hret : calqueref07_Split_R u m0 S (o84, true) a w := ⟨m0, [(Value.bool o84.Neg), (Value.string (bs o84.Whole)), (Value.string (bs o84.Frac))], le_m0, ok.drop.drop, E.d, ⟨rv_c (cs := [(Value.bool o84.Neg), (Value.string (bs o84.Whole)), (Value.string (bs o84.Frac))]) E ok rfl agg_88 rfl (Holds.own 1 rfl rfl), rv_t E rfl, trivial⟩, ⟨rfl, l93, l94⟩⟩
        obtain rfl := Option.some.inj hF
        exact fin _ _ hret
      replace hF := cond_t hc107 hF
      replace E := E.upd 87 hc107 rfl
      refine l_val E ok (y_fieldAddr fo_88_1 rfl) rfl rfl fun a E => ?_
      refine l_val E ok (y_load one_9 rfl (Holds.own 0 rfl rfl)) rfl rfl fun a E => ?_
      refine l_val E ok (y_fieldAddr fo_88_2 rfl) rfl rfl fun a E => ?_
      refine l_val E ok (y_load one_9 rfl (Holds.own 0 rfl rfl)) rfl rfl fun a E => ?_
      obtain ⟨s108, e109, hF⟩ := bnd hF
      refine l_val E ok (y_cat rfl rfl e109) rfl rfl fun a E => ?_
      obtain ⟨r110, e111, hF⟩ := bnd hF
      refine l_call E go_59 rfl (calqueref07_Zero_w N s108 (cat_len e109) e111 hG ok) rfl rfl ?_
      rintro _ w ⟨rfl, ok⟩
      refine ⟨_, rfl, fun a E => ?_⟩
      refine l_val E ok (y_pickT rfl rfl) rfl rfl fun a E => ?_
      refine l_val E ok (y_pickF rfl rfl) rfl rfl fun a E => ?_
      refine wpList_nil ?_
      refine t_norm ?_
      refine c_if E rfl (fun hc112 => ?_) (fun hc112 => ?_)
      · replace hF := cond_t hc112 hF
        refine wp_seq ?_
        refine c_region ?_
        refine l_val E ok (y_build (ps := []) (qs := []) (cs := [(Value.bool false), (Value.string (bs ([]))), (Value.string (bs ([])))]) zero_88 places_88 rfl trivial rfl) rfl rfl fun a E => ?_
        refine l_storeB E ok 1 rfl rfl rfl inf_88 rfl rfl ⟨rfl, rfl, rfl, trivial⟩ rfl rfl fun w ok => ?_
        refine l_val E ok (y_assign rfl) rfl rfl fun a E => ?_
        refine wpList_nil ?_
        refine t_norm ?_
        refine wp_ret ?_
        refine t_ret ?_
        have hret : calqueref07_Split_R u m0 S ((Number2.mk false ([]) ([])), false) a w := ⟨m0, [(Value.bool false), (Value.string (bs ([]))), (Value.string (bs ([])))], le_m0, ok.drop.drop, E.d, ⟨rv_c (cs := [(Value.bool false), (Value.string (bs ([]))), (Value.string (bs ([])))]) E ok rfl agg_88 rfl (Holds.own 1 rfl rfl), rv_t E rfl, trivial⟩, ⟨rfl, (Nat.zero_le _), (Nat.zero_le _)⟩⟩
        obtain rfl := Option.some.inj hF
        exact fin _ _ hret
      replace hF := cond_f hc112 hF
      refine wp_skip ?_
      refine t_norm ?_
      refine wp_seq ?_
      refine c_region ?_
      refine l_val E ok (y_loadAgg (cs := [(Value.bool o84.Neg), (Value.string (bs o84.Whole)), (Value.string (bs o84.Frac))]) agg_88 rfl rfl (Holds.own 0 rfl rfl)) rfl rfl fun a E => ?_
      refine l_storeB E ok 1 rfl rfl rfl inf_88 rfl rfl ⟨rfl, rfl, rfl, trivial⟩ rfl rfl fun w ok => ?_
      refine l_val E ok (y_assign rfl) rfl rfl fun a E => ?_
      refine wpList_nil ?_
      refine t_norm ?_
      refine wp_ret ?_
      have hret : calqueref07_Split_R u m0 S (o84, true) a w := ⟨m0, [(Value.bool o84.Neg), (Value.string (bs o84.Whole)), (Value.string (bs o84.Frac))], le_m0, ok.drop.drop, E.d, ⟨rv_c (cs := [(Value.bool o84.Neg), (Value.string (bs o84.Whole)), (Value.string (bs o84.Frac))]) E ok rfl agg_88 rfl (Holds.own 1 rfl rfl), rv_t E rfl, trivial⟩, ⟨rfl, l93, l94⟩⟩
      obtain rfl := Option.some.inj hF
      exact fin _ _ hret
  replace hF := cond_t hc3 hF
  replace E := E.upd 9 hc3 rfl
  refine l_val E ok (y_move rfl) rfl rfl fun a E => ?_
  obtain ⟨c4, e5, hF⟩ := bnd hF
  refine l_val E ok (y_index Tryd.underlying9 rfl rfl e5) rfl rfl fun a E => ?_
  refine l_val E ok (y_eql rfl rfl) rfl rfl fun a E => ?_
  refine l_val E ok (y_pickT rfl rfl) rfl rfl fun a E => ?_
  refine wpList_nil ?_
  refine t_norm ?_
  obtain ⟨o6, hJ, hF⟩ := bnd hF
  refine c_mono (Q' := fun e a w => e = .normal ∧ Ok u m0 ([(b2, Obj.cells [(Value.bool o6.2.Neg), (Value.string (bs o6.2.Whole)), (Value.string (bs o6.2.Frac))].toArray 88 (0, 0))] :: [(b1, Obj.cells [(Value.bool false), (Value.string (bs ([]))), (Value.string (bs ([])))].toArray 88 (0, 0))] :: S) w ∧ Env 98 a [(0, (Value.string (bs o6.1))), (2, (Value.pointer (some ⟨b1, 0, none⟩))), (4, (Value.pointer (some ⟨b2, 0, none⟩)))] ∧ o6.1.length ≤ LIMS ∧ o6.2.Whole.length ≤ LIMS ∧ o6.2.Frac.length ≤ LIMS) ?_ ?_
  · replace hF := hJ
    clear hJ
    refine c_if E rfl (fun hc10 => ?_) (fun hc10 => ?_)
    rotate_left
    · replace hF := cond_f hc10 hF
      refine wp_skip ?_
      obtain rfl := Option.some.inj hF
      exact ⟨rfl, ⟨ok, E.keep [0, 2, 4], ls_0, (Nat.zero_le _), (Nat.zero_le _)⟩⟩
    replace hF := cond_t hc10 hF
    obtain ⟨o11, hJ, hF⟩ := bnd hF
    refine c_mono (Q' := fun e a w => e = .normal ∧ Ok u m0 ([(b2, Obj.cells [(Value.bool o11.2.Neg), (Value.string (bs o11.2.Whole)), (Value.string (bs o11.2.Frac))].toArray 88 (0, 0))] :: [(b1, Obj.cells [(Value.bool false), (Value.string (bs ([]))), (Value.string (bs ([])))].toArray 88 (0, 0))] :: S) w ∧ Env 98 a [(0, (Value.string (bs o11.1))), (2, (Value.pointer (some ⟨b1, 0, none⟩))), (4, (Value.pointer (some ⟨b2, 0, none⟩)))] ∧ o11.1.length ≤ LIMS ∧ o11.2.Whole.length ≤ LIMS ∧ o11.2.Frac.length ≤ LIMS) ?_ ?_
    rotate_left
    · clear hJ
      intro e a w hO
      obtain ⟨rfl, ok, E, l17, l18, l19⟩ := hO
      obtain rfl := Option.some.inj hF
      exact ⟨rfl, ⟨ok, E.keep [0, 2, 4], l17, l18, l19⟩⟩
    replace hF := hJ
    clear hJ
    obtain ⟨s15, e16, hF⟩ := bnd hF
    obtain rfl := Option.some.inj hF
    refine k_begin [] (Cls u m0 ([(b1, Obj.cells [(Value.bool false), (Value.string (bs ([]))), (Value.string (bs ([])))].toArray 88 (0, 0))] :: [])) (Cls u m0 ([(b1, Obj.cells [(Value.bool false), (Value.string (bs ([]))), (Value.string (bs ([])))].toArray 88 (0, 0))] :: [])) (by kernel_rfl) ?_
    intro w hw
    replace ok := okdrew ok hw
    clear hw
    refine k_next (cl1 ⟨m0, _, le_m0, ok, ⟨memAt 1 rfl, trivial⟩⟩ ⟨m0, _, le_m0, ok, ⟨memAt 1 rfl, trivial⟩⟩) fun hT => ?_
    refine k_take 0 E rfl (by kernel_rfl) nP hT (y_move rfl) rfl rfl fun a E => ?_
    refine k_take 1 E rfl (by kernel_rfl) nP hT (y_sslice Tryd.underlying9 e16 rfl ⟨_, rfl⟩ rfl) rfl rfl fun a E => ?_
    refine k_take 2 E rfl (by kernel_rfl) nP hT (y_fieldAddr fo_88_0 rfl) rfl rfl fun a E => ?_
    refine k_all [3] (by kernel_rfl) rfl (one_c ?_)
    · refine wpOp_of_list (o := _) rfl ?_
      refine l_storeB E ok 0 rfl rfl rfl inf_4 rfl rfl ⟨rfl, trivial⟩ rfl rfl fun w ok => ?_
      refine wpList_nil ?_
      refine t_norm ?_
      refine k_next (cl1 ⟨m0, _, le_m0, ok, ⟨memAt 1 rfl, trivial⟩⟩ ⟨m0, _, le_m0, ok, ⟨memAt 1 rfl, trivial⟩⟩) fun hT => ?_
      refine k_take 4 E rfl (by kernel_rfl) nP hT (y_assign rfl) rfl rfl fun a E => ?_
      refine k_done (by kernel_rfl) ?_
      exact ⟨rfl, ⟨ok, E.keep [0, 2, 4], (Nat.le_trans (slc_len e16) ls_0), (Nat.zero_le _), (Nat.zero_le _)⟩⟩
  clear hJ
  intro e a w hO
  obtain ⟨rfl, ok, E, l20, l21, l22⟩ := hO
  refine t_norm ?_
  refine wp_seq ?_
  refine c_region ?_
  refine l_val E ok (y_assign rfl) rfl rfl fun a E => ?_
  refine wpList_nil ?_
  refine t_norm ?_
  refine wp_seq ?_
  refine wp_block ?_
  obtain ⟨o24, hL, hF⟩ := bnd hF
  refine c_loop _ (fun (s : Int) a w => Ok u m0 ([(b2, Obj.cells [(Value.bool o6.2.Neg), (Value.string (bs o6.2.Whole)), (Value.string (bs o6.2.Frac))].toArray 88 (0, 0))] :: [(b1, Obj.cells [(Value.bool false), (Value.string (bs ([]))), (Value.string (bs ([])))].toArray 88 (0, 0))] :: S) w ∧ Env 98 a [(0, (Value.string (bs o6.1))), (2, (Value.pointer (some ⟨b1, 0, none⟩))), (4, (Value.pointer (some ⟨b2, 0, none⟩))), (5, (Value.int .i64 s))] ∧ InR .i64 s) (fun (b : Int) e a w => e = (.exit 0) ∧ Ok u m0 ([(b2, Obj.cells [(Value.bool o6.2.Neg), (Value.string (bs o6.2.Whole)), (Value.string (bs o6.2.Frac))].toArray 88 (0, 0))] :: [(b1, Obj.cells [(Value.bool false), (Value.string (bs ([]))), (Value.string (bs ([])))].toArray 88 (0, 0))] :: S) w ∧ Env 98 a [(0, (Value.string (bs o6.1))), (2, (Value.pointer (some ⟨b1, 0, none⟩))), (4, (Value.pointer (some ⟨b2, 0, none⟩))), (5, (Value.int .i64 b))] ∧ InR .i64 b) ?_ ?_ N _ a w hL ⟨ok, E.keep [0, 2, 4, 5], (show InR .i64 (0) by decide)⟩
  · rintro k_26 a w r ⟨ok, E, r27⟩ hF
    replace hF : calqueref07_Split_b1 N o6 k_26 = some r := hF
    unfold calqueref07_Split_b1 at hF
    refine wp_seq ?_
    refine wp_seq ?_
    refine c_region ?_
    refine l_val E ok (y_move rfl) rfl rfl fun a E => ?_
    refine l_val E ok (y_move rfl) rfl rfl fun a E => ?_
    refine l_val E ok (y_slen Tryd.underlying9 rfl) rfl rfl fun a E => ?_
    refine l_val E ok (y_lss rfl rfl) rfl rfl fun a E => ?_
    refine l_val E ok (y_move rfl) rfl rfl fun a E => ?_
    refine bsplit (decide (k_26 < (o6.1.length : Int))) (fun hc28 => ?_) (fun hc28 => ?_)
    rotate_left
    · replace hF := cond_f hc28 hF
      replace E := E.upd 21 hc28 rfl
      iterate 4 refine l_skip E rfl rfl fun a E => ?_
      refine l_val E ok (y_pickF rfl rfl) rfl rfl fun a E => ?_
      refine wpList_nil ?_
      refine t_norm ?_
      refine c_if E rfl (fun h => by cases h) (fun _ => ?_)
      refine wp_exit ?_
      refine t_exit ?_
      obtain rfl := Option.some.inj hF
      exact step_o (by nofun) (⟨rfl, ⟨ok, E.keep [0, 2, 4, 5], r27⟩⟩)
    replace hF := cond_t hc28 hF
    replace E := E.upd 21 hc28 rfl
    refine l_val E ok (y_move rfl) rfl rfl fun a E => ?_
    refine l_val E ok (y_move rfl) rfl rfl fun a E => ?_
    obtain ⟨c29, e30, hF⟩ := bnd hF
    refine l_val E ok (y_index Tryd.underlying9 rfl rfl e30) rfl rfl fun a E => ?_
    refine l_val E ok (y_neq rfl rfl) rfl rfl fun a E => ?_
    refine l_val E ok (y_pickT rfl rfl) rfl rfl fun a E => ?_
    refine wpList_nil ?_
    refine t_norm ?_
    refine c_if E rfl (fun hc31 => ?_) (fun hc31 => ?_)
    rotate_left
    · replace hF := cond_f hc31 hF
      refine wp_exit ?_
      refine t_exit ?_
      obtain rfl := Option.some.inj hF
      exact step_o (by nofun) (⟨rfl, ⟨ok, E.keep [0, 2, 4, 5], r27⟩⟩)
    replace hF := cond_t hc31 hF
    refine wp_skip ?_
    refine t_norm ?_
    refine wp_block ?_
    refine c_region ?_
    refine l_val E ok (y_move rfl) rfl rfl fun a E => ?_
    refine l_val E ok (y_add rfl rfl (InR.inc r27 (InR.len l20) hc28)) rfl rfl fun a E => ?_
    refine l_val E ok (y_assign rfl) rfl rfl fun a E => ?_
    refine wpList_nil ?_
    refine b_norm ?_
    obtain rfl := Option.some.inj hF
    exact step_n ⟨ok, E.keep [0, 2, 4, 5], (InR.inc r27 (InR.len l20) hc28)⟩
  intro e a w _ hO
  obtain ⟨rfl, ok, E, r32⟩ := hO
  refine b_hit ?_
  refine t_norm ?_
  refine wp_seq ?_
  refine c_region ?_
  refine l_val E ok (y_move rfl) rfl rfl fun a E => ?_
  refine l_val E ok (y_move rfl) rfl rfl fun a E => ?_
  obtain ⟨s33, e34, hF⟩ := bnd hF
  refine l_val E ok (y_sslice Tryd.underlying9 e34 rfl rfl ⟨_, rfl⟩) rfl rfl fun a E => ?_
  refine l_val E ok (y_fieldAddr fo_88_1 rfl) rfl rfl fun a E => ?_
  refine l_storeB E ok 0 rfl rfl rfl inf_9 rfl rfl ⟨rfl, trivial⟩ rfl rfl fun w ok => ?_
  refine wpList_nil ?_
  refine t_norm ?_
  refine wp_seq ?_
  refine wp_seq ?_
  refine c_region ?_
  refine l_val E ok (y_move rfl) rfl rfl fun a E => ?_
  refine l_val E ok (y_move rfl) rfl rfl fun a E => ?_
  refine l_val E ok (y_slen Tryd.underlying9 rfl) rfl rfl fun a E => ?_
  refine l_val E ok (y_lss rfl rfl) rfl rfl fun a E => ?_
  refine wpList_nil ?_
  refine t_norm ?_
  obtain ⟨o35, hJ, hF⟩ := bnd hF
  refine c_mono (Q' := fun e a w => (Sum.elim (fun b36 => e = .normal ∧ Ok u m0 ([(b2, Obj.cells [(Value.bool b36.Neg), (Value.string (bs b36.Whole)), (Value.string (bs b36.Frac))].toArray 88 (0, 0))] :: [(b1, Obj.cells [(Value.bool false), (Value.string (bs ([]))), (Value.string (bs ([])))].toArray 88 (0, 0))] :: S) w ∧ Env 98 a [(2, (Value.pointer (some ⟨b1, 0, none⟩))), (4, (Value.pointer (some ⟨b2, 0, none⟩)))] ∧ b36.Whole.length ≤ LIMS ∧ b36.Frac.length ≤ LIMS) (fun b39 => e = .ret ∧ calqueref07_Split_R u m0 S b39 a w)) o35) ?_ ?_
  · replace hF := hJ
    clear hJ
    refine c_if E rfl (fun hc40 => ?_) (fun hc40 => ?_)
    rotate_left
    · replace hF := cond_f hc40 hF
      refine wp_skip ?_
      obtain rfl := Option.some.inj hF
      exact (sl ⟨rfl, ⟨ok, E.keep [2, 4], (Nat.le_trans (slc_len e34) l20), l22⟩⟩)
    replace hF := cond_t hc40 hF
    refine wp_seq ?_
    refine c_region ?_
    refine l_val E ok (y_move rfl) rfl rfl fun a E => ?_
    refine l_val E ok (y_move rfl) rfl rfl fun a E => ?_
    refine l_val E ok (y_add rfl rfl (InR.inc r32 (InR.len l20) hc40)) rfl rfl fun a E => ?_
    obtain ⟨s41, e42, hF⟩ := bnd hF
    refine l_val E ok (y_sslice Tryd.underlying9 e42 rfl ⟨_, rfl⟩ rfl) rfl rfl fun a E => ?_
    refine l_val E ok (y_fieldAddr fo_88_2 rfl) rfl rfl fun a E => ?_
    refine l_storeB E ok 0 rfl rfl rfl inf_9 rfl rfl ⟨rfl, trivial⟩ rfl rfl fun w ok => ?_
    refine wpList_nil ?_
    refine t_norm ?_
    refine wp_seq ?_
    refine c_region ?_
    refine l_val E ok (y_fieldAddr fo_88_2 rfl) rfl rfl fun a E => ?_
    refine l_val E ok (y_load one_9 rfl (Holds.own 0 rfl rfl)) rfl rfl fun a E => ?_
    refine l_val E ok (y_slen Tryd.underlying9 rfl) rfl rfl fun a E => ?_
    refine l_val E ok (y_eql rfl rfl) rfl rfl fun a E => ?_
    refine wpList_nil ?_
    refine t_norm ?_
    refine c_if E rfl (fun hc43 => ?_) (fun hc43 => ?_)
    rotate_left
    · replace hF := cond_f hc43 hF
      refine wp_skip ?_
      obtain rfl := Option.some.inj hF
      exact (sl ⟨rfl, ⟨ok, E.keep [2, 4], (Nat.le_trans (slc_len e34) l20), (Nat.le_trans (slc_len e42) l20)⟩⟩)
    replace hF := cond_t hc43 hF
    refine wp_seq ?_
    refine c_region ?_
    refine l_val E ok (y_build (ps := []) (qs := []) (cs := [(Value.bool false), (Value.string (bs ([]))), (Value.string (bs ([])))]) zero_88 places_88 rfl trivial rfl) rfl rfl fun a E => ?_
    refine l_storeB E ok 1 rfl rfl rfl inf_88 rfl rfl ⟨rfl, rfl, rfl, trivial⟩ rfl rfl fun w ok => ?_
    refine l_val E ok (y_assign rfl) rfl rfl fun a E => ?_
    refine wpList_nil ?_
    refine t_norm ?_
    refine wp_ret ?_
    have hret : calqueref07_Split_R u m0 S ((Number2.mk false ([]) ([])), false) a w := ⟨m0, [(Value.bool false), (Value.string (bs ([]))), (Value.string (bs ([])))], le_m0, ok.drop.drop, E.d, ⟨rv_c (cs := [(Value.bool false), (Value.string (bs ([]))), (Value.string (bs ([])))]) E ok rfl agg_88 rfl (Holds.own 1 rfl rfl), rv_t E rfl, trivial⟩, ⟨rfl, (Nat.zero_le _), (Nat.zero_le _)⟩⟩
    obtain rfl := Option.some.inj hF
    exact (sr ⟨rfl, hret⟩)
  clear hJ
  intro e a w hO
  rcases o35 with o35 | o35
  rotate_left
  · replace hF := elim_r hF
    obtain ⟨rfl, hret⟩ := hO
    refine t_ret ?_
    obtain rfl := Option.some.inj hF
    exact fin _ _ hret
  replace hF := elim_l hF
  obtain ⟨rfl, ok, E, l44, l45⟩ := hO
  refine t_norm ?_
  refine wp_seq ?_
  refine wp_seq ?_
  refine c_region ?_
  refine l_val E ok (y_fieldAddr fo_88_1 rfl) rfl rfl fun a E => ?_
  refine l_val E ok (y_load one_9 rfl (Holds.own 0 rfl rfl)) rfl rfl fun a E => ?_
  refine l_val E ok (y_fieldAddr fo_88_2 rfl) rfl rfl fun a E => ?_
  refine l_val E ok (y_load one_9 rfl (Holds.own 0 rfl rfl)) rfl rfl fun a E => ?_
  obtain ⟨s46, e47, hF⟩ := bnd hF
  refine l_val E ok (y_cat rfl rfl e47) rfl rfl fun a E => ?_
  obtain ⟨r48, e49, hF⟩ := bnd hF
  refine l_call E go_58 rfl (calqueref07_digits_w N s46 (cat_len e47) e49 hG ok) rfl rfl ?_
  rintro _ w ⟨rfl, ok⟩
  refine ⟨_, rfl, fun a E => ?_⟩
  refine l_val E ok (y_not rfl) rfl rfl fun a E => ?_
  refine l_val E ok (y_move rfl) rfl rfl fun a E => ?_
  refine bsplit (!r48) (fun hc50 => ?_) (fun hc50 => ?_)
  · replace hF := cond_t hc50 hF
    replace E := E.upd 54 hc50 rfl
    iterate 4 refine l_skip E rfl rfl fun a E => ?_
    refine l_val E ok (y_pickT rfl rfl) rfl rfl fun a E => ?_
    refine l_val E ok (y_move rfl) rfl rfl fun a E => ?_
    iterate 4 refine l_skip E rfl rfl fun a E => ?_
    refine l_val E ok (y_pickT rfl rfl) rfl rfl fun a E => ?_
    refine l_val E ok (y_move rfl) rfl rfl fun a E => ?_
    iterate 10 refine l_skip E rfl rfl fun a E => ?_
    refine l_val E ok (y_pickT rfl rfl) rfl rfl fun a E => ?_
    refine l_val E ok (y_move rfl) rfl rfl fun a E => ?_
    iterate 4 refine l_skip E rfl rfl fun a E => ?_
    refine l_val E ok (y_pickT rfl rfl) rfl rfl fun a E => ?_
    refine l_val E ok (y_move rfl) rfl rfl fun a E => ?_
    iterate 10 refine l_skip E rfl rfl fun a E => ?_
    refine l_val E ok (y_pickT rfl rfl) rfl rfl fun a E => ?_
    refine wpList_nil ?_
    refine t_norm ?_
    refine c_if E rfl (fun _ => ?_) (fun h => by cases h)
    refine wp_seq ?_
    refine c_region ?_
    refine l_val E ok (y_build (ps := []) (qs := []) (cs := [(Value.bool false), (Value.string (bs ([]))), (Value.string (bs ([])))]) zero_88 places_88 rfl trivial rfl) rfl rfl fun a E => ?_
    refine l_storeB E ok 1 rfl rfl rfl inf_88 rfl rfl ⟨rfl, rfl, rfl, trivial⟩ rfl rfl fun w ok => ?_
    refine l_val E ok (y_assign rfl) rfl rfl fun a E => ?_
    refine wpList_nil ?_
    refine t_norm ?_
    refine wp_ret ?_
    refine t_ret ?_
    have hret : calqueref07_Split_R u m0 S ((Number2.mk false ([]) ([])), false) a w := ⟨m0, [(Value.bool false), (Value.string (bs ([]))), (Value.string (bs ([])))], le_m0, ok.drop.drop, E.d, ⟨rv_c (cs := [(Value.bool false), (Value.string (bs ([]))), (Value.string (bs ([])))]) E ok rfl agg_88 rfl (Holds.own 1 rfl rfl), rv_t E rfl, trivial⟩, ⟨rfl, (Nat.zero_le _), (Nat.zero_le _)⟩⟩
    obtain rfl := Option.some.inj hF
    exact fin _ _ hret
  replace hF := cond_f hc50 hF
  replace E := E.upd 54 hc50 rfl
  refine l_val E ok (y_fieldAddr fo_88_1 rfl) rfl rfl fun a E => ?_
  refine l_val E ok (y_load one_9 rfl (Holds.own 0 rfl rfl)) rfl rfl fun a E => ?_
  refine l_val E ok (y_slen Tryd.underlying9 rfl) rfl rfl fun a E => ?_
  refine l_val E ok (y_lss rfl rfl) rfl rfl fun a E => ?_
  refine l_val E ok (y_pickF rfl rfl) rfl rfl fun a E => ?_
  refine l_val E ok (y_move rfl) rfl rfl fun a E => ?_
  refine bsplit (decide ((o35.Whole.length : Int) < 1)) (fun hc51 => ?_) (fun hc51 => ?_)
  · replace hF := cond_t hc51 hF
    replace E := E.upd 60 hc51 rfl
    iterate 4 refine l_skip E rfl rfl fun a E => ?_
    refine l_val E ok (y_pickT rfl rfl) rfl rfl fun a E => ?_
    refine l_val E ok (y_move rfl) rfl rfl fun a E => ?_
    iterate 10 refine l_skip E rfl rfl fun a E => ?_
    refine l_val E ok (y_pickT rfl rfl) rfl rfl fun a E => ?_
    refine l_val E ok (y_move rfl) rfl rfl fun a E => ?_
    iterate 4 refine l_skip E rfl rfl fun a E => ?_
    refine l_val E ok (y_pickT rfl rfl) rfl rfl fun a E => ?_
    refine l_val E ok (y_move rfl) rfl rfl fun a E => ?_
    iterate 10 refine l_skip E rfl rfl fun a E => ?_
    refine l_val E ok (y_pickT rfl rfl) rfl rfl fun a E => ?_
    refine wpList_nil ?_
    refine t_norm ?_
    refine c_if E rfl (fun _ => ?_) (fun h => by cases h)
    refine wp_seq ?_
    refine c_region ?_
    refine l_val E ok (y_build (ps := []) (qs := []) (cs := [(Value.bool false), (Value.string (bs ([]))), (Value.string (bs ([])))]) zero_88 places_88 rfl trivial rfl) rfl rfl fun a E => ?_
    refine l_storeB E ok 1 rfl rfl rfl inf_88 rfl rfl ⟨rfl, rfl, rfl, trivial⟩ rfl rfl fun w ok => ?_
    refine l_val E ok (y_assign rfl) rfl rfl fun a E => ?_
    refine wpList_nil ?_
    refine t_norm ?_
    refine wp_ret ?_
    refine t_ret ?_
    have hret : calqueref07_Split_R u m0 S ((Number2.mk false ([]) ([])), false) a w := ⟨m0, [(Value.bool false), (Value.string (bs ([]))), (Value.string (bs ([])))], le_m0, ok.drop.drop, E.d, ⟨rv_c (cs := [(Value.bool false), (Value.string (bs ([]))), (Value.string (bs ([])))]) E ok rfl agg_88 rfl (Holds.own 1 rfl rfl), rv_t E rfl, trivial⟩, ⟨rfl, (Nat.zero_le _), (Nat.zero_le _)⟩⟩
    obtain rfl := Option.some.inj hF
    exact fin _ _ hret
  replace hF := cond_f hc51 hF
  replace E := E.upd 60 hc51 rfl
  refine l_val E ok (y_fieldAddr fo_88_1 rfl) rfl rfl fun a E => ?_
  refine l_val E ok (y_load one_9 rfl (Holds.own 0 rfl rfl)) rfl rfl fun a E => ?_
  refine l_val E ok (y_slen Tryd.underlying9 rfl) rfl rfl fun a E => ?_
  refine l_val E ok (y_gtr rfl rfl) rfl rfl fun a E => ?_
  refine l_val E ok (y_pickF rfl rfl) rfl rfl fun a E => ?_
  refine l_val E ok (y_move rfl) rfl rfl fun a E => ?_
  refine bsplit (decide ((o35.Whole.length : Int) > 15)) (fun hc52 => ?_) (fun hc52 => ?_)
  · replace hF := cond_t hc52 hF
    replace E := E.upd 66 hc52 rfl
    iterate 10 refine l_skip E rfl rfl fun a E => ?_
    refine l_val E ok (y_pickT rfl rfl) rfl rfl fun a E => ?_
    refine l_val E ok (y_move rfl) rfl rfl fun a E => ?_
    iterate 4 refine l_skip E rfl rfl fun a E => ?_
    refine l_val E ok (y_pickT rfl rfl) rfl rfl fun a E => ?_
    refine l_val E ok (y_move rfl) rfl rfl fun a E => ?_
    iterate 10 refine l_skip E rfl rfl fun a E => ?_
    refine l_val E ok (y_pickT rfl rfl) rfl rfl fun a E => ?_
    refine wpList_nil ?_
    refine t_norm ?_
    refine c_if E rfl (fun _ => ?_) (fun h => by cases h)
    refine wp_seq ?_
    refine c_region ?_
    refine l_val E ok (y_build (ps := []) (qs := []) (cs := [(Value.bool false), (Value.string (bs ([]))), (Value.string (bs ([])))]) zero_88 places_88 rfl trivial rfl) rfl rfl fun a E => ?_
    refine l_storeB E ok 1 rfl rfl rfl inf_88 rfl rfl ⟨rfl, rfl, rfl, trivial⟩ rfl rfl fun w ok => ?_
    refine l_val E ok (y_assign rfl) rfl rfl fun a E => ?_
    refine wpList_nil ?_
    refine t_norm ?_
    refine wp_ret ?_
    refine t_ret ?_
    have hret : calqueref07_Split_R u m0 S ((Number2.mk false ([]) ([])), false) a w := ⟨m0, [(Value.bool false), (Value.string (bs ([]))), (Value.string (bs ([])))], le_m0, ok.drop.drop, E.d, ⟨rv_c (cs := [(Value.bool false), (Value.string (bs ([]))), (Value.string (bs ([])))]) E ok rfl agg_88 rfl (Holds.own 1 rfl rfl), rv_t E rfl, trivial⟩, ⟨rfl, (Nat.zero_le _), (Nat.zero_le _)⟩⟩
    obtain rfl := Option.some.inj hF
    exact fin _ _ hret
  replace hF := cond_f hc52 hF
  replace E := E.upd 66 hc52 rfl
  refine l_val E ok (y_fieldAddr fo_88_1 rfl) rfl rfl fun a E => ?_
  refine l_val E ok (y_load one_9 rfl (Holds.own 0 rfl rfl)) rfl rfl fun a E => ?_
  refine l_val E ok (y_slen Tryd.underlying9 rfl) rfl rfl fun a E => ?_
  refine l_val E ok (y_gtr rfl rfl) rfl rfl fun a E => ?_
  refine l_val E ok (y_move rfl) rfl rfl fun a E => ?_
  refine bsplit (decide ((o35.Whole.length : Int) > 1)) (fun hc53 => ?_) (fun hc53 => ?_)
  rotate_left
  · as_aux_lemma =>
      replace hF := cond_f hc53 hF
      replace E := E.upd 71 hc53 rfl
      iterate 4 refine l_skip E rfl rfl fun a E => ?_
      refine l_val E ok (y_pickF rfl rfl) rfl rfl fun a E => ?_
      refine l_val E ok (y_pickF rfl rfl) rfl rfl fun a E => ?_
      refine l_val E ok (y_move rfl) rfl rfl fun a E => ?_
      refine l_val E ok (y_fieldAddr fo_88_2 rfl) rfl rfl fun a E => ?_
      refine l_val E ok (y_load one_9 rfl (Holds.own 0 rfl rfl)) rfl rfl fun a E => ?_
      refine l_val E ok (y_slen Tryd.underlying9 rfl) rfl rfl fun a E => ?_
      refine l_val E ok (y_gtr rfl rfl) rfl rfl fun a E => ?_
      refine l_val E ok (y_pickF rfl rfl) rfl rfl fun a E => ?_
      refine l_val E ok (y_move rfl) rfl rfl fun a E => ?_
      refine bsplit (decide ((o35.Frac.length : Int) > 6)) (fun hc64 => ?_) (fun hc64 => ?_)
      · replace hF := cond_t hc64 hF
        replace E := E.upd 84 hc64 rfl
        iterate 10 refine l_skip E rfl rfl fun a E => ?_
        refine l_val E ok (y_pickT rfl rfl) rfl rfl fun a E => ?_
        refine wpList_nil ?_
        refine t_norm ?_
        refine c_if E rfl (fun _ => ?_) (fun h => by cases h)
        refine wp_seq ?_
        refine c_region ?_
        refine l_val E ok (y_build (ps := []) (qs := []) (cs := [(Value.bool false), (Value.string (bs ([]))), (Value.string (bs ([])))]) zero_88 places_88 rfl trivial rfl) rfl rfl fun a E => ?_
        refine l_storeB E ok 1 rfl rfl rfl inf_88 rfl rfl ⟨rfl, rfl, rfl, trivial⟩ rfl rfl fun w ok => ?_
        refine l_val E ok (y_assign rfl) rfl rfl fun a E => ?_
        refine wpList_nil ?_
        refine t_norm ?_
        refine wp_ret ?_
        refine t_ret ?_
        have hret : calqueref07_Split_R u m0 S ((Number2.mk false ([]) ([])), false) a w := ⟨m0, [(Value.bool false), (Value.string (bs ([]))), (Value.string (bs ([])))], le_m0, ok.drop.drop, E.d, ⟨rv_c (cs := [(Value.bool false), (Value.string (bs ([]))), (Value.string (bs ([])))]) E ok rfl agg_88 rfl (Holds.own 1 rfl rfl), rv_t E rfl, trivial⟩, ⟨rfl, (Nat.zero_le _), (Nat.zero_le _)⟩⟩
        obtain rfl := Option.some.inj hF
        exact fin _ _ hret
      replace hF := cond_f hc64 hF
      replace E := E.upd 84 hc64 rfl
      refine l_val E ok (y_fieldAddr fo_88_0 rfl) rfl rfl fun a E => ?_
      refine l_val E ok (y_load one_4 rfl (Holds.own 0 rfl rfl)) rfl rfl fun a E => ?_
      refine l_val E ok (y_move rfl) rfl rfl fun a E => ?_
      refine bsplit o35.Neg (fun hc65 => ?_) (fun hc65 => ?_)
      rotate_left
      · replace hF := cond_f hc65 hF
        replace E := E.upd 87 hc65 rfl
        iterate 6 refine l_skip E rfl rfl fun a E => ?_
        refine l_val E ok (y_pickF rfl rfl) rfl rfl fun a E => ?_
        refine l_val E ok (y_pickF rfl rfl) rfl rfl fun a E => ?_
        refine wpList_nil ?_
        refine t_norm ?_
        refine c_if E rfl (fun h => by cases h) (fun _ => ?_)
        refine wp_skip ?_
        refine t_norm ?_
        refine wp_seq ?_
        refine c_region ?_
        refine l_val E ok (y_loadAgg (cs := [(Value.bool o35.Neg), (Value.string (bs o35.Whole)), (Value.string (bs o35.Frac))]) agg_88 rfl rfl (Holds.own 0 rfl rfl)) rfl rfl fun a E => ?_
        refine l_storeB E ok 1 rfl rfl rfl inf_88 rfl rfl ⟨rfl, rfl, rfl, trivial⟩ rfl rfl fun w ok => ?_
        refine l_val E ok (y_assign rfl) rfl rfl fun a E => ?_
        refine wpList_nil ?_
        refine t_norm ?_
        refine wp_ret ?_
        have hret : calqueref07_Split_R u m0 S (o35, true) a w := ⟨m0, [(Value.bool o35.Neg), (Value.string (bs o35.Whole)), (Value.string (bs o35.Frac))], le_m0, ok.drop.drop, E.d, ⟨rv_c (cs := [(Value.bool o35.Neg), (Value.string (bs o35.Whole)), (Value.string (bs o35.Frac))]) E ok rfl agg_88 rfl (Holds.own 1 rfl rfl), rv_t E rfl, trivial⟩, ⟨rfl, l44, l45⟩⟩
        obtain rfl := Option.some.inj hF
        exact fin _ _ hret
      replace hF := cond_t hc65 hF
      replace E := E.upd 87 hc65 rfl
      refine l_val E ok (y_fieldAddr fo_88_1 rfl) rfl rfl fun a E => ?_
      refine l_val E ok (y_load one_9 rfl (Holds.own 0 rfl rfl)) rfl rfl fun a E => ?_
      refine l_val E ok (y_fieldAddr fo_88_2 rfl) rfl rfl fun a E => ?_
      refine l_val E ok (y_load one_9 rfl (Holds.own 0 rfl rfl)) rfl rfl fun a E => ?_
      obtain ⟨s66, e67, hF⟩ := bnd hF
      refine l_val E ok (y_cat rfl rfl e67) rfl rfl fun a E => ?_
      obtain ⟨r68, e69, hF⟩ := bnd hF
      refine l_call E go_59 rfl (calqueref07_Zero_w N s66 (cat_len e67) e69 hG ok) rfl rfl ?_
      rintro _ w ⟨rfl, ok⟩
      refine ⟨_, rfl, fun a E => ?_⟩
      refine l_val E ok (y_pickT rfl rfl) rfl rfl fun a E => ?_
      refine l_val E ok (y_pickF rfl rfl) rfl rfl fun a E => ?_
      refine wpList_nil ?_
      refine t_norm ?_
      refine c_if E rfl (fun hc70 => ?_) (fun hc70 => ?_)
      · replace hF := cond_t hc70 hF
        refine wp_seq ?_
        refine c_region ?_
        refine l_val E ok (y_build (ps := []) (qs := []) (cs := [(Value.bool false), (Value.string (bs ([]))), (Value.string (bs ([])))]) zero_88 places_88 rfl trivial rfl) rfl rfl fun a E => ?_
        refine l_storeB E ok 1 rfl rfl rfl inf_88 rfl rfl ⟨rfl, rfl, rfl, trivial⟩ rfl rfl fun w ok => ?_
        refine l_val E ok (y_assign rfl) rfl rfl fun a E => ?_
        refine wpList_nil ?_
        refine t_norm ?_
        refine wp_ret ?_
        refine t_ret ?_
        have hret : calqueref07_Split_R u m0 S ((Number2.mk false ([]) ([])), false) a w := ⟨m0, [(Value.bool false), (Value.string (bs ([]))), (Value.string (bs ([])))], le_m0, ok.drop.drop, E.d, ⟨rv_c (cs := [(Value.bool false), (Value.string (bs ([]))), (Value.string (bs ([])))]) E ok rfl agg_88 rfl (Holds.own 1 rfl rfl), rv_t E rfl, trivial⟩, ⟨rfl, (Nat.zero_le _), (Nat.zero_le _)⟩⟩
        obtain rfl := Option.some.inj hF
        exact fin _ _ hret
      replace hF := cond_f hc70 hF
      refine wp_skip ?_
      refine t_norm ?_
      refine wp_seq ?_
      refine c_region ?_
      refine l_val E ok (y_loadAgg (cs := [(Value.bool o35.Neg), (Value.string (bs o35.Whole)), (Value.string (bs o35.Frac))]) agg_88 rfl rfl (Holds.own 0 rfl rfl)) rfl rfl fun a E => ?_
      refine l_storeB E ok 1 rfl rfl rfl inf_88 rfl rfl ⟨rfl, rfl, rfl, trivial⟩ rfl rfl fun w ok => ?_
      refine l_val E ok (y_assign rfl) rfl rfl fun a E => ?_
      refine wpList_nil ?_
      refine t_norm ?_
      refine wp_ret ?_
      have hret : calqueref07_Split_R u m0 S (o35, true) a w := ⟨m0, [(Value.bool o35.Neg), (Value.string (bs o35.Whole)), (Value.string (bs o35.Frac))], le_m0, ok.drop.drop, E.d, ⟨rv_c (cs := [(Value.bool o35.Neg), (Value.string (bs o35.Whole)), (Value.string (bs o35.Frac))]) E ok rfl agg_88 rfl (Holds.own 1 rfl rfl), rv_t E rfl, trivial⟩, ⟨rfl, l44, l45⟩⟩
      obtain rfl := Option.some.inj hF
      exact fin _ _ hret
  replace hF := cond_t hc53 hF
  replace E := E.upd 71 hc53 rfl
  refine l_val E ok (y_fieldAddr fo_88_1 rfl) rfl rfl fun a E => ?_
  refine l_val E ok (y_load one_9 rfl (Holds.own 0 rfl rfl)) rfl rfl fun a E => ?_
  obtain ⟨c54, e55, hF⟩ := bnd hF
  refine l_val E ok (y_index Tryd.underlying9 rfl rfl e55) rfl rfl fun a E => ?_
  refine l_val E ok (y_eql rfl rfl) rfl rfl fun a E => ?_
  refine l_val E ok (y_pickT rfl rfl) rfl rfl fun a E => ?_
  refine l_val E ok (y_pickF rfl rfl) rfl rfl fun a E => ?_
  refine l_val E ok (y_move rfl) rfl rfl fun a E => ?_
  refine bsplit ((c54.toNat : Int) == 48) (fun hc56 => ?_) (fun hc56 => ?_)
  · replace hF := cond_t hc56 hF
    replace E := E.upd 78 hc56 rfl
    iterate 4 refine l_skip E rfl rfl fun a E => ?_
    refine l_val E ok (y_pickT rfl rfl) rfl rfl fun a E => ?_
    refine l_val E ok (y_move rfl) rfl rfl fun a E => ?_
    iterate 10 refine l_skip E rfl rfl fun a E => ?_
    refine l_val E ok (y_pickT rfl rfl) rfl rfl fun a E => ?_
    refine wpList_nil ?_
    refine t_norm ?_
    refine c_if E rfl (fun _ => ?_) (fun h => by cases h)
    refine wp_seq ?_
    refine c_region ?_
    refine l_val E ok (y_build (ps := []) (qs := []) (cs := [(Value.bool false), (Value.string (bs ([]))), (Value.string (bs ([])))]) zero_88 places_88 rfl trivial rfl) rfl rfl fun a E => ?_
    refine l_storeB E ok 1 rfl rfl rfl inf_88 rfl rfl ⟨rfl, rfl, rfl, trivial⟩ rfl rfl fun w ok => ?_
    refine l_val E ok (y_assign rfl) rfl rfl fun a E => ?_
    refine wpList_nil ?_
    refine t_norm ?_
    refine wp_ret ?_
    refine t_ret ?_
    have hret : calqueref07_Split_R u m0 S ((Number2.mk false ([]) ([])), false) a w := ⟨m0, [(Value.bool false), (Value.string (bs ([]))), (Value.string (bs ([])))], le_m0, ok.drop.drop, E.d, ⟨rv_c (cs := [(Value.bool false), (Value.string (bs ([]))), (Value.string (bs ([])))]) E ok rfl agg_88 rfl (Holds.own 1 rfl rfl), rv_t E rfl, trivial⟩, ⟨rfl, (Nat.zero_le _), (Nat.zero_le _)⟩⟩
    obtain rfl := Option.some.inj hF
    exact fin _ _ hret
  replace hF := cond_f hc56 hF
  replace E := E.upd 78 hc56 rfl
  refine l_val E ok (y_fieldAddr fo_88_2 rfl) rfl rfl fun a E => ?_
  refine l_val E ok (y_load one_9 rfl (Holds.own 0 rfl rfl)) rfl rfl fun a E => ?_
  refine l_val E ok (y_slen Tryd.underlying9 rfl) rfl rfl fun a E => ?_
  refine l_val E ok (y_gtr rfl rfl) rfl rfl fun a E => ?_
  refine l_val E ok (y_pickF rfl rfl) rfl rfl fun a E => ?_
  refine l_val E ok (y_move rfl) rfl rfl fun a E => ?_
  refine bsplit (decide ((o35.Frac.length : Int) > 6)) (fun hc57 => ?_) (fun hc57 => ?_)
  · replace hF := cond_t hc57 hF
    replace E := E.upd 84 hc57 rfl
    iterate 10 refine l_skip E rfl rfl fun a E => ?_
    refine l_val E ok (y_pickT rfl rfl) rfl rfl fun a E => ?_
    refine wpList_nil ?_
    refine t_norm ?_
    refine c_if E rfl (fun _ => ?_) (fun h => by cases h)
    refine wp_seq ?_
    refine c_region ?_
    refine l_val E ok (y_build (ps := []) (qs := []) (cs := [(Value.bool false), (Value.string (bs ([]))), (Value.string (bs ([])))]) zero_88 places_88 rfl trivial rfl) rfl rfl fun a E => ?_
    refine l_storeB E ok 1 rfl rfl rfl inf_88 rfl rfl ⟨rfl, rfl, rfl, trivial⟩ rfl rfl fun w ok => ?_
    refine l_val E ok (y_assign rfl) rfl rfl fun a E => ?_
    refine wpList_nil ?_
    refine t_norm ?_
    refine wp_ret ?_
    refine t_ret ?_
    have hret : calqueref07_Split_R u m0 S ((Number2.mk false ([]) ([])), false) a w := ⟨m0, [(Value.bool false), (Value.string (bs ([]))), (Value.string (bs ([])))], le_m0, ok.drop.drop, E.d, ⟨rv_c (cs := [(Value.bool false), (Value.string (bs ([]))), (Value.string (bs ([])))]) E ok rfl agg_88 rfl (Holds.own 1 rfl rfl), rv_t E rfl, trivial⟩, ⟨rfl, (Nat.zero_le _), (Nat.zero_le _)⟩⟩
    obtain rfl := Option.some.inj hF
    exact fin _ _ hret
  replace hF := cond_f hc57 hF
  replace E := E.upd 84 hc57 rfl
  refine l_val E ok (y_fieldAddr fo_88_0 rfl) rfl rfl fun a E => ?_
  refine l_val E ok (y_load one_4 rfl (Holds.own 0 rfl rfl)) rfl rfl fun a E => ?_
  refine l_val E ok (y_move rfl) rfl rfl fun a E => ?_
  refine bsplit o35.Neg (fun hc58 => ?_) (fun hc58 => ?_)
  rotate_left
  · replace hF := cond_f hc58 hF
    replace E := E.upd 87 hc58 rfl
    iterate 6 refine l_skip E rfl rfl fun a E => ?_
    refine l_val E ok (y_pickF rfl rfl) rfl rfl fun a E => ?_
    refine l_val E ok (y_pickF rfl rfl) rfl rfl fun a E => ?_
    refine wpList_nil ?_
    refine t_norm ?_
    refine c_if E rfl (fun h => by cases h) (fun _ => ?_)
    refine wp_skip ?_
    refine t_norm ?_
    refine wp_seq ?_
    refine c_region ?_
    refine l_val E ok (y_loadAgg (cs := [(Value.bool o35.Neg), (Value.string (bs o35.Whole)), (Value.string (bs o35.Frac))]) agg_88 rfl rfl (Holds.own 0 rfl rfl)) rfl rfl fun a E => ?_
    refine l_storeB E ok 1 rfl rfl rfl inf_88 rfl rfl ⟨rfl, rfl, rfl, trivial⟩ rfl rfl fun w ok => ?_
    refine l_val E ok (y_assign rfl) rfl rfl fun a E => ?_
    refine wpList_nil ?_
    refine t_norm ?_
    refine wp_ret ?_
    have hret : calqueref07_Split_R u m0 S (o35, true) a w := ⟨m0, [(Value.bool o35.Neg), (Value.string (bs o35.Whole)), (Value.string (bs o35.Frac))], le_m0, ok.drop.drop, E.d, ⟨rv_c (cs := [(Value.bool o35.Neg), (Value.string (bs o35.Whole)), (Value.string (bs o35.Frac))]) E ok rfl agg_88 rfl (Holds.own 1 rfl rfl), rv_t E rfl, trivial⟩, ⟨rfl, l44, l45⟩⟩
    obtain rfl := Option.some.inj hF
    exact fin _ _ hret
  replace hF := cond_t hc58 hF
  replace E := E.upd 87 hc58 rfl
  refine l_val E ok (y_fieldAddr fo_88_1 rfl) rfl rfl fun a E => ?_
  refine l_val E ok (y_load one_9 rfl (Holds.own 0 rfl rfl)) rfl rfl fun a E => ?_
  refine l_val E ok (y_fieldAddr fo_88_2 rfl) rfl rfl fun a E => ?_
  refine l_val E ok (y_load one_9 rfl (Holds.own 0 rfl rfl)) rfl rfl fun a E => ?_
  obtain ⟨s59, e60, hF⟩ := bnd hF
  refine l_val E ok (y_cat rfl rfl e60) rfl rfl fun a E => ?_
  obtain ⟨r61, e62, hF⟩ := bnd hF
  refine l_call E go_59 rfl (calqueref07_Zero_w N s59 (cat_len e60) e62 hG ok) rfl rfl ?_
  rintro _ w ⟨rfl, ok⟩
  refine ⟨_, rfl, fun a E => ?_⟩
  refine l_val E ok (y_pickT rfl rfl) rfl rfl fun a E => ?_
  refine l_val E ok (y_pickF rfl rfl) rfl rfl fun a E => ?_
  refine wpList_nil ?_
  refine t_norm ?_
  refine c_if E rfl (fun hc63 => ?_) (fun hc63 => ?_)
  · replace hF := cond_t hc63 hF
    refine wp_seq ?_
    refine c_region ?_
    refine l_val E ok (y_build (ps := []) (qs := []) (cs := [(Value.bool false), (Value.string (bs ([]))), (Value.string (bs ([])))]) zero_88 places_88 rfl trivial rfl) rfl rfl fun a E => ?_
    refine l_storeB E ok 1 rfl rfl rfl inf_88 rfl rfl ⟨rfl, rfl, rfl, trivial⟩ rfl rfl fun w ok => ?_
    refine l_val E ok (y_assign rfl) rfl rfl fun a E => ?_
    refine wpList_nil ?_
    refine t_norm ?_
    refine wp_ret ?_
    refine t_ret ?_
    have hret : calqueref07_Split_R u m0 S ((Number2.mk false ([]) ([])), false) a w := ⟨m0, [(Value.bool false), (Value.string (bs ([]))), (Value.string (bs ([])))], le_m0, ok.drop.drop, E.d, ⟨rv_c (cs := [(Value.bool false), (Value.string (bs ([]))), (Value.string (bs ([])))]) E ok rfl agg_88 rfl (Holds.own 1 rfl rfl), rv_t E rfl, trivial⟩, ⟨rfl, (Nat.zero_le _), (Nat.zero_le _)⟩⟩
    obtain rfl := Option.some.inj hF
    exact fin _ _ hret
  replace hF := cond_f hc63 hF
  refine wp_skip ?_
  refine t_norm ?_
  refine wp_seq ?_
  refine c_region ?_
  refine l_val E ok (y_loadAgg (cs := [(Value.bool o35.Neg), (Value.string (bs o35.Whole)), (Value.string (bs o35.Frac))]) agg_88 rfl rfl (Holds.own 0 rfl rfl)) rfl rfl fun a E => ?_
  refine l_storeB E ok 1 rfl rfl rfl inf_88 rfl rfl ⟨rfl, rfl, rfl, trivial⟩ rfl rfl fun w ok => ?_
  refine l_val E ok (y_assign rfl) rfl rfl fun a E => ?_
  refine wpList_nil ?_
  refine t_norm ?_
  refine wp_ret ?_
  have hret : calqueref07_Split_R u m0 S (o35, true) a w := ⟨m0, [(Value.bool o35.Neg), (Value.string (bs o35.Whole)), (Value.string (bs o35.Frac))], le_m0, ok.drop.drop, E.d, ⟨rv_c (cs := [(Value.bool o35.Neg), (Value.string (bs o35.Whole)), (Value.string (bs o35.Frac))]) E ok rfl agg_88 rfl (Holds.own 1 rfl rfl), rv_t E rfl, trivial⟩, ⟨rfl, l44, l45⟩⟩
  obtain rfl := Option.some.inj hF
  exact fin _ _ hret

def calqueref07_Valid_R (u : World) (m0 : Mem) (S : Segs) (r : Bool) (a : Act) (w : World) : Prop :=
  Ok u m0 S w ∧ a.defers = [] ∧ RVs Tryd.prog a w [.t 2 (.bool r)]
set_option maxHeartbeats 4000000 in
set_option maxRecDepth 100000 in
theorem calqueref07_Valid_w {u : World} {m0 : Mem} {S : Segs} {w : World} (N : Nat) (s_0 : List UInt8) (ls_0 : s_0.length ≤ LIMS) {r : Bool} (hF : calqueref07_Valid N s_0 = some r) (hG : Glob u) (ok : Ok u m0 S w) :
    Calls Tryd.prog 46 [Value.string (bs s_0)].toArray w fun e w' => (e = .returned (.bool r) ∧ Ok u m0 S w') := by
  have hb0 := ok.base
  have le_m0 := Mem.le.refl m0
  unfold calqueref07_Valid at hF
  have fin : ∀ a w, calqueref07_Valid_R u m0 S r a w → bodyPost Tryd.prog Tryd.f46 (fun e w' => (e = .returned (.bool r) ∧ Ok u m0 S w')) .ret a w := by
    intro a w h
    obtain ⟨ok, hd, hrv⟩ := h
    exact c_ret2 [.t 2 (.bool r)] hd rfl hrv ⟨rfl, ok⟩
  refine enter Tryd.func46 rfl rfl rfl fun a E => ?_
  refine wp_seq ?_
  refine c_region ?_
  refine l_val E ok (y_assign rfl) rfl rfl fun a E => ?_
  refine wpList_nil ?_
  refine t_norm ?_
  refine wp_seq ?_
  refine c_region ?_
  refine l_val E ok (y_move rfl) rfl rfl fun a E => ?_
  obtain ⟨r1, e2, hF⟩ := bnd hF
  refine l_call E go_51 rfl (calqueref07_Split_w N s_0 ls_0 e2 hG ok) rfl rfl ?_
  rintro _ w ⟨m3, vs4, rfl, hle, ok, h5⟩
  have le_m0 := le_m0.trans hle
  obtain ⟨rfl, l6, l7⟩ := h5
  refine ⟨_, rfl, fun a E => ?_⟩
  refine l_val E ok (y_move rfl) rfl rfl fun a E => ?_
  refine l_val E ok (y_extract rfl rfl) rfl rfl fun a E => ?_
  refine l_val E ok (y_extract rfl rfl) rfl rfl fun a E => ?_
  refine l_alloc E ok zero_88 rfl rfl fun b8 a w E ok => ?_
  refine l_storeB E ok 0 rfl rfl rfl inf_88 rfl rfl ⟨rfl, rfl, rfl, trivial⟩ rfl rfl fun w ok => ?_
  refine l_val E ok (y_assign rfl) rfl rfl fun a E => ?_
  refine wpList_nil ?_
  refine t_norm ?_
  refine wp_seq ?_
  refine c_region ?_
  refine l_val E ok (y_move rfl) rfl rfl fun a E => ?_
  refine l_val E ok (y_assign rfl) rfl rfl fun a E => ?_
  refine wpList_nil ?_
  refine t_norm ?_
  refine wp_ret ?_
  have hret : calqueref07_Valid_R u m0 S r1.2 a w := ⟨(ok.drop).down hb0 le_m0, E.d, ⟨rv_t E rfl, trivial⟩⟩
  obtain rfl := Option.some.inj hF
  exact fin _ _ hret

def calqueref26_Key_R (u : World) (m0 : Mem) (S : Segs) (r : Bool) (a : Act) (w : World) : Prop :=
  Ok u m0 S w ∧ a.defers = [] ∧ RVs Tryd.prog a w [.t 4 (.bool r)]
set_option maxHeartbeats 4000000 in
set_option maxRecDepth 100000 in
theorem calqueref26_Key_w {u : World} {m0 : Mem} {S : Segs} {w : World} (N : Nat) (kind_0 : Int) (rkind_0 : InR .i64 kind_0) (s_1 : List UInt8) (ls_1 : s_1.length ≤ LIMS) {r : Bool} (hF : calqueref26_Key N kind_0 s_1 = some r) (hG : Glob u) (ok : Ok u m0 S w) :
    Calls Tryd.prog 36 [Value.int .i64 kind_0, Value.string (bs s_1)].toArray w fun e w' => (e = .returned (.bool r) ∧ Ok u m0 S w') := by
  have hb0 := ok.base
  have le_m0 := Mem.le.refl m0
  unfold calqueref26_Key at hF
  have fin : ∀ a w, calqueref26_Key_R u m0 S r a w → bodyPost Tryd.prog Tryd.f36 (fun e w' => (e = .returned (.bool r) ∧ Ok u m0 S w')) .ret a w := by
    intro a w h
    obtain ⟨ok, hd, hrv⟩ := h
    exact c_ret2 [.t 4 (.bool r)] hd rfl hrv ⟨rfl, ok⟩
  refine enter Tryd.func36 rfl rfl rfl fun a E => ?_
  refine wp_seq ?_
  refine c_region ?_
  refine l_val E ok (y_assign rfl) rfl rfl fun a E => ?_
  refine wpList_nil ?_
  refine t_norm ?_
  refine wp_seq ?_
  refine wp_seq ?_
  refine c_region ?_
  refine l_val E ok (y_move rfl) rfl rfl fun a E => ?_
  refine l_val E ok (y_eql rfl rfl) rfl rfl fun a E => ?_
  refine wpList_nil ?_
  refine t_norm ?_
  refine c_if E rfl (fun hc1 => ?_) (fun hc1 => ?_)
  · replace hF := cond_t hc1 hF
    refine wp_seq ?_
    refine c_region ?_
    refine l_val E ok (y_move rfl) rfl rfl fun a E => ?_
    obtain ⟨r2, e3, hF⟩ := bnd hF
    refine l_call E go_23 rfl (calqueref25_Name_w N s_1 ls_1 e3 hG ok) rfl rfl ?_
    rintro _ w ⟨rfl, ok⟩
    refine ⟨_, rfl, fun a E => ?_⟩
    refine l_val E ok (y_assign rfl) rfl rfl fun a E => ?_
    refine wpList_nil ?_
    refine t_norm ?_
    refine wp_ret ?_
    refine t_ret ?_
    have hret : calqueref26_Key_R u m0 S r2 a w := ⟨ok, E.d, ⟨rv_t E rfl, trivial⟩⟩
    obtain rfl := Option.some.inj hF
    exact fin _ _ hret
  replace hF := cond_f hc1 hF
  refine wp_skip ?_
  refine t_norm ?_
  refine wp_seq ?_
  refine c_region ?_
  refine l_val E ok (y_move rfl) rfl rfl fun a E => ?_
  obtain ⟨r4, e5, hF⟩ := bnd hF
  refine l_call E go_45 rfl (calqueref26_Class_w N s_1 ls_1 e5 hG ok) rfl rfl ?_
  rintro _ w ⟨rfl, ok⟩
  refine ⟨_, rfl, fun a E => ?_⟩
  refine l_val E ok (y_move rfl) rfl rfl fun a E => ?_
  refine bsplit r4 (fun hc6 => ?_) (fun hc6 => ?_)
  · replace hF := cond_t hc6 hF
    replace E := E.upd 11 hc6 rfl
    iterate 13 refine l_skip E rfl rfl fun a E => ?_
    refine l_val E ok (y_pickT rfl rfl) rfl rfl fun a E => ?_
    refine l_val E ok (y_assign rfl) rfl rfl fun a E => ?_
    refine wpList_nil ?_
    refine t_norm ?_
    refine wp_ret ?_
    have hret : calqueref26_Key_R u m0 S true a w := ⟨ok, E.d, ⟨rv_t E rfl, trivial⟩⟩
    obtain rfl := Option.some.inj hF
    exact fin _ _ hret
  replace hF := cond_f hc6 hF
  replace E := E.upd 11 hc6 rfl
  refine l_val E ok (y_move rfl) rfl rfl fun a E => ?_
  refine l_val E ok (y_slen Tryd.underlying9 rfl) rfl rfl fun a E => ?_
  refine l_val E ok (y_gtr rfl rfl) rfl rfl fun a E => ?_
  refine l_val E ok (y_move rfl) rfl rfl fun a E => ?_
  refine bsplit (decide ((s_1.length : Int) > 1)) (fun hc7 => ?_) (fun hc7 => ?_)
  rotate_left
  · replace hF := cond_f hc7 hF
    replace E := E.upd 15 hc7 rfl
    iterate 3 refine l_skip E rfl rfl fun a E => ?_
    refine l_val E ok (y_pickF rfl rfl) rfl rfl fun a E => ?_
    refine l_val E ok (y_move rfl) rfl rfl fun a E => ?_
    iterate 3 refine l_skip E rfl rfl fun a E => ?_
    refine l_val E ok (y_pickF rfl rfl) rfl rfl fun a E => ?_
    refine l_val E ok (y_pickF rfl rfl) rfl rfl fun a E => ?_
    refine l_val E ok (y_assign rfl) rfl rfl fun a E => ?_
    refine wpList_nil ?_
    refine t_norm ?_
    refine wp_ret ?_
    have hret : calqueref26_Key_R u m0 S false a w := ⟨ok, E.d, ⟨rv_t E rfl, trivial⟩⟩
    obtain rfl := Option.some.inj hF
    exact fin _ _ hret
  replace hF := cond_t hc7 hF
  replace E := E.upd 15 hc7 rfl
  refine l_val E ok (y_move rfl) rfl rfl fun a E => ?_
  obtain ⟨c8, e9, hF⟩ := bnd hF
  refine l_val E ok (y_index Tryd.underlying9 rfl rfl e9) rfl rfl fun a E => ?_
  refine l_val E ok (y_eql rfl rfl) rfl rfl fun a E => ?_
  refine l_val E ok (y_pickT rfl rfl) rfl rfl fun a E => ?_
  refine l_val E ok (y_move rfl) rfl rfl fun a E => ?_
  refine bsplit ((c8.toNat : Int) == 61) (fun hc10 => ?_) (fun hc10 => ?_)
  rotate_left
  · replace hF := cond_f hc10 hF
    replace E := E.upd 20 hc10 rfl
    iterate 3 refine l_skip E rfl rfl fun a E => ?_
    refine l_val E ok (y_pickF rfl rfl) rfl rfl fun a E => ?_
    refine l_val E ok (y_pickF rfl rfl) rfl rfl fun a E => ?_
    refine l_val E ok (y_assign rfl) rfl rfl fun a E => ?_
    refine wpList_nil ?_
    refine t_norm ?_
    refine wp_ret ?_
    have hret : calqueref26_Key_R u m0 S false a w := ⟨ok, E.d, ⟨rv_t E rfl, trivial⟩⟩
    obtain rfl := Option.some.inj hF
    exact fin _ _ hret
  replace hF := cond_t hc10 hF
  replace E := E.upd 20 hc10 rfl
  refine l_val E ok (y_move rfl) rfl rfl fun a E => ?_
  obtain ⟨s11, e12, hF⟩ := bnd hF
  refine l_val E ok (y_sslice Tryd.underlying9 e12 rfl ⟨_, rfl⟩ rfl) rfl rfl fun a E => ?_
  obtain ⟨r13, e14, hF⟩ := bnd hF
  refine l_call E go_46 rfl (calqueref07_Valid_w N s11 (Nat.le_trans (slc_len e12) ls_1) e14 hG ok) rfl rfl ?_
  rintro _ w ⟨rfl, ok⟩
  refine ⟨_, rfl, fun a E => ?_⟩
  refine l_val E ok (y_pickT rfl rfl) rfl rfl fun a E => ?_
  refine l_val E ok (y_pickF rfl rfl) rfl rfl fun a E => ?_
  refine l_val E ok (y_assign rfl) rfl rfl fun a E => ?_
  refine wpList_nil ?_
  refine t_norm ?_
  refine wp_ret ?_
  have hret : calqueref26_Key_R u m0 S r13 a w := ⟨ok, E.d, ⟨rv_t E rfl, trivial⟩⟩
  obtain rfl := Option.some.inj hF
  exact fin _ _ hret

def calqueref34_cases_R (u : World) (m0 : Mem) (S : Segs) (r : Bool) (a : Act) (w : World) : Prop :=
  Ok u m0 S w ∧ a.defers = [] ∧ RVs Tryd.prog a w [.t 4 (.bool r)]
set_option maxHeartbeats 4000000 in
set_option maxRecDepth 100000 in
theorem calqueref34_cases_w {u : World} {m0 : Mem} {S : Segs} {w : World} (N : Nat) (vc_0 : List Value) (c_0 : Code) (hc_0 : pCode m0 vc_0 c_0) (i_1 : Int) (ri_1 : InR .i64 i_1) {r : Bool} (hF : calqueref34_cases N c_0 i_1 = some r) (hG : Glob u) (ok : Ok u m0 S w) :
    Calls Tryd.prog 26 [.agg vc_0.toArray, Value.int .i64 i_1].toArray w fun e w' => (e = .returned (.bool r) ∧ Ok u m0 S w') := by
  obtain ⟨c1, c3, rfl, h2, h4⟩ := hc_0
  have hb0 := ok.base
  have le_m0 := Mem.le.refl m0
  unfold calqueref34_cases at hF
  have fin : ∀ a w, calqueref34_cases_R u m0 S r a w → bodyPost Tryd.prog Tryd.f26 (fun e w' => (e = .returned (.bool r) ∧ Ok u m0 S w')) .ret a w := by
    intro a w h
    obtain ⟨ok, hd, hrv⟩ := h
    exact c_ret2 [.t 4 (.bool r)] hd rfl hrv ⟨rfl, ok⟩
  refine enter Tryd.func26 rfl rfl rfl fun a E => ?_
  refine wp_seq ?_
  refine c_region ?_
  refine l_box E ok rfl rfl rfl fun b5 a w E ok => ?_
  refine l_val E ok (y_assign rfl) rfl rfl fun a E => ?_
  refine wpList_nil ?_
  refine t_norm ?_
  refine wp_seq ?_
  refine c_region ?_
  refine l_val E ok (y_assign rfl) rfl rfl fun a E => ?_
  refine wpList_nil ?_
  refine t_norm ?_
  refine wp_seq ?_
  refine wp_seq ?_
  refine c_region ?_
  refine l_val E ok (y_move rfl) rfl rfl fun a E => ?_
  refine l_val E ok (y_addw rfl rfl) rfl rfl fun a E => ?_
  refine l_val E ok (y_assign rfl) rfl rfl fun a E => ?_
  refine wpList_nil ?_
  refine t_norm ?_
  refine wp_block ?_
  obtain ⟨M11, ok, h12⟩ := nilrow (e := 9) (k := 1) (R := pS) ok
  obtain ⟨o13, hL, hF⟩ := bnd hF
  refine c_loop _ (fun (s : (List (List UInt8)) × Int) a w => ∃ c14 M15, Ok u m0 (M15 :: [(b5, Obj.cells [c1, c3].toArray 25 (0, 0))] :: S) w ∧ Env 57 a [(1, (Value.int .i64 i_1)), (2, (Value.pointer (some ⟨b5, 0, none⟩))), (5, c14), (6, (Value.int .i64 s.2))] ∧ ORow 9 1 pS m0 c14 s.1 M15 ∧ InR .i64 s.2) (fun (b : (((List (List UInt8))) ⊕ Bool)) e a w => (Sum.elim (fun b95 => e = (.exit 0) ∧ ∃ c96 M97, Ok u m0 (M97 :: [(b5, Obj.cells [c1, c3].toArray 25 (0, 0))] :: S) w ∧ Env 57 a [(5, c96)] ∧ ORow 9 1 pS m0 c96 b95 M97) (fun b99 => e = .ret ∧ calqueref34_cases_R u m0 S b99 a w)) b) ?_ ?_ N _ a w hL ⟨(Value.slice none 0 0), M11, ok, E.keep [1, 2, 5, 6], h12, (InR.wrap _ _)⟩
  rotate_left
  · intro e a w _ hO
    rcases o13 with o13 | o13
    rotate_left
    · replace hF := elim_r hF
      obtain ⟨rfl, hret⟩ := hO
      refine b_ret ?_
      refine t_ret ?_
      obtain rfl := Option.some.inj hF
      exact fin _ _ hret
    replace hF := elim_l hF
    obtain ⟨rfl, c84, M85, ok, E, h86⟩ := hO
    refine b_hit ?_
    refine t_norm ?_
    refine wp_seq ?_
    refine c_region ?_
    refine l_val E ok (y_move rfl) rfl rfl fun a E => ?_
    refine l_val E ok (y_lenR sl_22 h86 rfl) rfl rfl fun a E => ?_
    refine l_val E ok (y_leq rfl rfl) rfl rfl fun a E => ?_
    refine l_val E ok (y_move rfl) rfl rfl fun a E => ?_
    refine bsplit (decide ((o13.length : Int) ≤ 20)) (fun hc87 => ?_) (fun hc87 => ?_)
    rotate_left
    · replace hF := cond_f hc87 hF
      replace E := E.upd 53 hc87 rfl
      iterate 2 refine l_skip E rfl rfl fun a E => ?_
      refine l_val E ok (y_pickF rfl rfl) rfl rfl fun a E => ?_
      refine l_val E ok (y_assign rfl) rfl rfl fun a E => ?_
      refine wpList_nil ?_
      refine t_norm ?_
      refine wp_ret ?_
      have hret : calqueref34_cases_R u m0 S false a w := ⟨ok.drop.drop, E.d, ⟨rv_t E rfl, trivial⟩⟩
      obtain rfl := Option.some.inj hF
      exact fin _ _ hret
    replace hF := cond_t hc87 hF
    replace E := E.upd 53 hc87 rfl
    refine l_val E ok (y_move rfl) rfl rfl fun a E => ?_
    obtain ⟨r93, e94, hF⟩ := bnd hF
    obtain ⟨m88, hle90, ok89, hfz91⟩ := (ok.frs 0 rfl).freeze
    have h92 := ORow.froz mS h86 hle90 hfz91 (by decide)
    refine l_call E go_28 rfl (calqueref26_In_w N _ o13 h92 ([111, 116, 104, 101, 114]) (show ([111, 116, 104, 101, 114] : List UInt8).length ≤ LIMS by decide) e94 hG ok89) rfl rfl ?_
    rintro _ w ⟨rfl, okz⟩
    replace ok := (Ok.thawAt 0 rfl ok hle90 hfz91 okz)
    refine ⟨_, rfl, fun a E => ?_⟩
    refine l_val E ok (y_pickT rfl rfl) rfl rfl fun a E => ?_
    refine l_val E ok (y_assign rfl) rfl rfl fun a E => ?_
    refine wpList_nil ?_
    refine t_norm ?_
    refine wp_ret ?_
    have hret : calqueref34_cases_R u m0 S r93 a w := ⟨ok.drop.drop, E.d, ⟨rv_t E rfl, trivial⟩⟩
    obtain rfl := Option.some.inj hF
    exact fin _ _ hret
  rintro ⟨keys_18, k_19⟩ a w r ⟨c20, M21, ok, E, h22, r23⟩ hF
  replace hF : calqueref34_cases_b1 N c_0 i_1 keys_18 k_19 = some r := hF
  unfold calqueref34_cases_b1 at hF
  refine wp_seq ?_
  refine wp_seq ?_
  refine c_region ?_
  refine l_val E ok (y_move rfl) rfl rfl fun a E => ?_
  refine l_val E ok (y_fieldAddr fo_25_1 rfl) rfl rfl fun a E => ?_
  refine l_val E ok (y_load one_23 rfl (Holds.own 1 rfl rfl)) rfl rfl fun a E => ?_
  refine l_val E ok (y_lenL sl_23 h4 rfl) rfl rfl fun a E => ?_
  refine l_val E ok (y_lss rfl rfl) rfl rfl fun a E => ?_
  refine l_val E ok (y_move rfl) rfl rfl fun a E => ?_
  refine bsplit (decide (k_19 < (c_0.Ins.length : Int))) (fun hc24 => ?_) (fun hc24 => ?_)
  rotate_left
  · replace hF := cond_f hc24 hF
    replace E := E.upd 15 hc24 rfl
    iterate 7 refine l_skip E rfl rfl fun a E => ?_
    refine l_val E ok (y_pickF rfl rfl) rfl rfl fun a E => ?_
    refine wpList_nil ?_
    refine t_norm ?_
    refine c_if E rfl (fun h => by cases h) (fun _ => ?_)
    refine wp_exit ?_
    refine t_exit ?_
    obtain rfl := Option.some.inj hF
    exact step_o (by nofun) (sl ⟨rfl, ⟨c20, M21, ok, E.keep [5], h22⟩⟩)
  replace hF := cond_t hc24 hF
  replace E := E.upd 15 hc24 rfl
  refine l_val E ok (y_fieldAddr fo_25_1 rfl) rfl rfl fun a E => ?_
  refine l_val E ok (y_load one_23 rfl (Holds.own 1 rfl rfl)) rfl rfl fun a E => ?_
  refine l_val E ok (y_move rfl) rfl rfl fun a E => ?_
  obtain ⟨x25, e26, hF⟩ := bnd hF
  obtain ⟨b27, o28, es29, hl30, rr31, at32, yy33⟩ := idxAt sl_23 h4 e26 (P := Tryd.prog) (X := .tmp 17) (I := .tmp 18) (kd := .i64) (ev_of E rfl) (ev_of E rfl)
  obtain ⟨rfl, r34, r35, r36, l37⟩ := rr31
  refine l_val E ok (yy33 _ _) rfl rfl fun a E => ?_
  refine l_val E ok (y_fieldAddr fo_35_0 rfl) rfl rfl fun a E => ?_
  refine l_val E ok (y_load one_3 rfl (Holds.ro (At.sub 0 1 at32))) rfl rfl fun a E => ?_
  refine l_val E ok (y_eql rfl rfl) rfl rfl fun a E => ?_
  refine l_val E ok (y_pickT rfl rfl) rfl rfl fun a E => ?_
  refine wpList_nil ?_
  refine t_norm ?_
  refine c_if E rfl (fun hc38 => ?_) (fun hc38 => ?_)
  rotate_left
  · replace hF := cond_f hc38 hF
    refine wp_exit ?_
    refine t_exit ?_
    obtain rfl := Option.some.inj hF
    exact step_o (by nofun) (sl ⟨rfl, ⟨c20, M21, ok, E.keep [5], h22⟩⟩)
  replace hF := cond_t hc38 hF
  refine wp_skip ?_
  refine t_norm ?_
  refine wp_seq ?_
  refine wp_block ?_
  refine wp_seq ?_
  refine c_region ?_
  refine l_val E ok (y_fieldAddr fo_25_1 rfl) rfl rfl fun a E => ?_
  refine l_val E ok (y_load one_23 rfl (Holds.own 1 rfl rfl)) rfl rfl fun a E => ?_
  refine l_val E ok (y_move rfl) rfl rfl fun a E => ?_
  obtain ⟨x39, e40, hF⟩ := bnd hF
  obtain ⟨b41, o42, es43, hl44, rr45, at46, yy47⟩ := idxAt sl_23 h4 e40 (P := Tryd.prog) (X := .tmp 27) (I := .tmp 28) (kd := .i64) (ev_of E rfl) (ev_of E rfl)
  obtain ⟨rfl, r48, r49, r50, l51⟩ := rr45
  refine l_val E ok (yy47 _ _) rfl rfl fun a E => ?_
  refine l_val E ok (y_fieldAddr fo_35_3 rfl) rfl rfl fun a E => ?_
  refine l_val E ok (y_load one_9 rfl (Holds.ro (At.sub 3 1 at46))) rfl rfl fun a E => ?_
  refine l_val E ok (y_assign rfl) rfl rfl fun a E => ?_
  refine wpList_nil ?_
  refine t_norm ?_
  refine wp_seq ?_
  refine wp_seq ?_
  refine c_region ?_
  refine l_val E ok (y_fieldAddr fo_25_1 rfl) rfl rfl fun a E => ?_
  refine l_val E ok (y_load one_23 rfl (Holds.own 1 rfl rfl)) rfl rfl fun a E => ?_
  refine l_val E ok (y_move rfl) rfl rfl fun a E => ?_
  obtain ⟨x52, e53, hF⟩ := bnd hF
  obtain ⟨b54, o55, es56, hl57, rr58, at59, yy60⟩ := idxAt sl_23 h4 e53 (P := Tryd.prog) (X := .tmp 33) (I := .tmp 34) (kd := .i64) (ev_of E rfl) (ev_of E rfl)
  obtain ⟨rfl, r61, r62, r63, l64⟩ := rr58
  refine l_val E ok (yy60 _ _) rfl rfl fun a E => ?_
  refine l_val E ok (y_fieldAddr fo_35_2 rfl) rfl rfl fun a E => ?_
  refine l_val E ok (y_load one_3 rfl (Holds.ro (At.sub 2 1 at59))) rfl rfl fun a E => ?_
  refine l_val E ok (y_move rfl) rfl rfl fun a E => ?_
  obtain ⟨r65, e66, hF⟩ := bnd hF
  refine l_call E go_36 rfl (calqueref26_Key_w N x52.B r63 x39.S l51 e66 hG ok) rfl rfl ?_
  rintro _ w ⟨rfl, ok⟩
  refine ⟨_, rfl, fun a E => ?_⟩
  refine l_val E ok (y_not rfl) rfl rfl fun a E => ?_
  refine l_val E ok (y_move rfl) rfl rfl fun a E => ?_
  refine bsplit (!r65) (fun hc67 => ?_) (fun hc67 => ?_)
  · replace hF := cond_t hc67 hF
    replace E := E.upd 41 hc67 rfl
    iterate 3 refine l_skip E rfl rfl fun a E => ?_
    refine l_val E ok (y_pickT rfl rfl) rfl rfl fun a E => ?_
    refine wpList_nil ?_
    refine t_norm ?_
    refine c_if E rfl (fun _ => ?_) (fun h => by cases h)
    refine wp_seq ?_
    refine c_region ?_
    refine l_val E ok (y_assign rfl) rfl rfl fun a E => ?_
    refine wpList_nil ?_
    refine t_norm ?_
    refine wp_ret ?_
    refine t_ret ?_
    refine b_ret ?_
    refine t_ret ?_
    have hret : calqueref34_cases_R u m0 S false a w := ⟨ok.drop.drop, E.d, ⟨rv_t E rfl, trivial⟩⟩
    obtain rfl := Option.some.inj hF
    exact step_o (by nofun) (sr ⟨rfl, hret⟩)
  replace hF := cond_f hc67 hF
  replace E := E.upd 41 hc67 rfl
  refine l_val E ok (y_move rfl) rfl rfl fun a E => ?_
  refine l_val E ok (y_move rfl) rfl rfl fun a E => ?_
  obtain ⟨r73, e74, hF⟩ := bnd hF
  obtain ⟨m68, hle70, ok69, hfz71⟩ := (ok.frs 0 rfl).freeze
  have h72 := ORow.froz mS h22 hle70 hfz71 (by decide)
  refine l_call E go_28 rfl (calqueref26_In_w N _ keys_18 h72 x39.S l51 e74 hG ok69) rfl rfl ?_
  rintro _ w ⟨rfl, okz⟩
  replace ok := (Ok.thawAt 0 rfl ok hle70 hfz71 okz)
  refine ⟨_, rfl, fun a E => ?_⟩
  refine l_val E ok (y_pickF rfl rfl) rfl rfl fun a E => ?_
  refine wpList_nil ?_
  refine t_norm ?_
  refine c_if E rfl (fun hc75 => ?_) (fun hc75 => ?_)
  · replace hF := cond_t hc75 hF
    refine wp_seq ?_
    refine c_region ?_
    refine l_val E ok (y_assign rfl) rfl rfl fun a E => ?_
    refine wpList_nil ?_
    refine t_norm ?_
    refine wp_ret ?_
    refine t_ret ?_
    refine b_ret ?_
    refine t_ret ?_
    have hret : calqueref34_cases_R u m0 S false a w := ⟨ok.drop.drop, E.d, ⟨rv_t E rfl, trivial⟩⟩
    obtain rfl := Option.some.inj hF
    exact step_o (by nofun) (sr ⟨rfl, hret⟩)
  replace hF := cond_f hc75 hF
  refine wp_skip ?_
  refine t_norm ?_
  refine c_region ?_
  refine l_val E ok (y_move rfl) rfl rfl fun a E => ?_
  refine l_val E ok (y_move rfl) rfl rfl fun a E => ?_
  refine l_slit (R := pS) (xo := [.tmp 47]) (xs := ([x39.S] : List (List UInt8))) E ok sl_22 zero_9 rfl ⟨⟨_, rfl, rfl, (pS_mk l51)⟩, trivial⟩ rfl rfl rfl rfl fun c76 M77 a w E ok h78 => ?_
  obtain ⟨l79, e80, hF⟩ := bnd hF
  refine l_app (R := pS) E ok 1 mS sl_22 Tryd.underlying22 rfl h22 (SrcOK.ofRow h78 0 rfl ok) e80 ⟨_, zero_9, rfl⟩ rfl rfl rfl rfl fun c81 M82 a w E ok h83 => ?_
  refine l_val E ok (y_assign rfl) rfl rfl fun a E => ?_
  refine wpList_nil ?_
  refine b_norm ?_
  refine t_norm ?_
  refine c_region ?_
  refine l_val E ok (y_move rfl) rfl rfl fun a E => ?_
  refine l_val E ok (y_add rfl rfl (InR.inc r23 (pL_InR h4) hc24)) rfl rfl fun a E => ?_
  refine l_val E ok (y_assign rfl) rfl rfl fun a E => ?_
  refine wpList_nil ?_
  obtain rfl := Option.some.inj hF
  exact step_n ⟨c81, M82, (ok.pk 3 [1, 2] rfl (by decide)), E.keep [1, 2, 5, 6], h83, (InR.inc r23 (pL_InR h4) hc24)⟩

end Go.Proofs.YtmghnmfefpeelaaDoor
