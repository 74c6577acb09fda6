/- The walks of this part: the model's run of each function yields what the plain function says. Printed by gen8.py. -/
import Derived.Test.YtboacfcnmhnbdaaGreatDoorExt14a4
import Derived.Test.YtboacfcnmhnbdaaGreatDoorWalk14a3
import Derived.Test.YtboacfcnmhnbdaaGreatDoorChecked
import Derived.Test.YtboacfcnmhnbdaaGreatDoorShelf
set_option linter.unusedVariables false
namespace Go.Proofs.YtboacfcnmhnbdaaGreatDoor
open Go.X

def calqueref07_Split_R (u : World) (m0 : Mem) (S : Segs) (r : Number2 × Bool) (a : Act) (w : World) : Prop :=
  ∃ m1 v0, m0.le m1 ∧ Ok u m1 S w ∧ a.defers = [] ∧ RVs Tryz.prog a w [.c 2 36 (.agg v0.toArray), .t 3 (.bool r.2)] ∧ pNumber2 m1 v0 r.1
set_option maxHeartbeats 4000000 in
set_option maxRecDepth 100000 in
theorem calqueref07_Split_w {u : World} {m0 : Mem} {S : Segs} {w : World} (N : Nat) (s_0 : List UInt8) (ls_0 : s_0.length ≤ LIMS) {r : Number2 × Bool} (hF : calqueref07_Split N s_0 = some r) (hG : Glob u) (ok : Ok u m0 S w) :
    Calls Tryz.prog 21 [Value.string (bs s_0)].toArray w fun e w' => ∃ m1 v0, e = .returned (.tuple [(.agg v0.toArray), (.bool r.2)].toArray) ∧ m0.le m1 ∧ Ok u m1 S w' ∧ pNumber2 m1 v0 r.1 := by
  have le_m0 := Mem.le.refl m0
  unfold calqueref07_Split at hF
  have fin : ∀ a w, calqueref07_Split_R u m0 S r a w → bodyPost Tryz.prog Tryz.f21 (fun e w' => ∃ m1 v0, e = .returned (.tuple [(.agg v0.toArray), (.bool r.2)].toArray) ∧ m0.le m1 ∧ Ok u m1 S w' ∧ pNumber2 m1 v0 r.1) .ret a w := by
    intro a w h
    obtain ⟨m1, v0, hle, ok, hd, hrv, h0⟩ := h
    exact c_ret2 [.c 2 36 (.agg v0.toArray), .t 3 (.bool r.2)] hd rfl hrv ⟨m1, v0, rfl, hle, ok, h0⟩
  refine enter Tryz.func21 rfl rfl rfl fun a E => ?_
  refine wp_seq ?_
  refine c_region ?_
  refine l_alloc E ok zero_36 rfl rfl fun b1 a w E ok => ?_
  refine l_val E ok (y_assign rfl) rfl rfl fun a E => ?_
  refine wpList_nil ?_
  refine t_norm ?_
  refine wp_seq ?_
  refine c_region ?_
  refine l_alloc E ok zero_36 rfl rfl fun b2 a w E ok => ?_
  refine wpList_nil ?_
  refine t_norm ?_
  refine wp_seq ?_
  refine wp_seq ?_
  refine c_region ?_
  refine l_val E ok (y_move rfl) rfl rfl fun a E => ?_
  refine l_val E ok (y_slen Tryz.underlying9 rfl) rfl rfl fun a E => ?_
  refine l_val E ok (y_gtr rfl rfl) rfl rfl fun a E => ?_
  refine l_val E ok (y_move rfl) rfl rfl fun a E => ?_
  refine bsplit (decide ((s_0.length : Int) > 0)) (fun hc3 => ?_) (fun hc3 => ?_)
  rotate_left
  · as_aux_lemma =>
      replace hF := cond_f hc3 hF
      replace E := E.upd 9 hc3 rfl
      refine l_skip E rfl rfl fun a E => ?_
      refine l_skip E rfl rfl fun a E => ?_
      refine l_skip E rfl rfl fun a E => ?_
      refine l_val E ok (y_pickF rfl rfl) rfl rfl fun a E => ?_
      refine wpList_nil ?_
      refine t_norm ?_
      refine c_if E rfl (fun h => by cases h) (fun _ => ?_)
      refine wp_skip ?_
      refine t_norm ?_
      refine wp_seq ?_
      refine c_region ?_
      refine l_val E ok (y_assign rfl) rfl rfl fun a E => ?_
      refine wpList_nil ?_
      refine t_norm ?_
      refine wp_seq ?_
      refine wp_block ?_
      obtain ⟨o73, hL, hF⟩ := bnd hF
      refine c_loop _ (fun (s : Int) a w => Ok u m0 ([(b2, Obj.cells [(Value.bool false), (Value.string (bs ([]))), (Value.string (bs ([])))].toArray 36 (0, 0))] :: [(b1, Obj.cells [(Value.bool false), (Value.string (bs ([]))), (Value.string (bs ([])))].toArray 36 (0, 0))] :: S) w ∧ Env 98 a [(0, (Value.string (bs s_0))), (2, (Value.pointer (some ⟨b1, 0, none⟩))), (4, (Value.pointer (some ⟨b2, 0, none⟩))), (5, (Value.int .i64 s))] ∧ InR .i64 s) (fun (b : Int) e a w => e = (.exit 0) ∧ Ok u m0 ([(b2, Obj.cells [(Value.bool false), (Value.string (bs ([]))), (Value.string (bs ([])))].toArray 36 (0, 0))] :: [(b1, Obj.cells [(Value.bool false), (Value.string (bs ([]))), (Value.string (bs ([])))].toArray 36 (0, 0))] :: S) w ∧ Env 98 a [(0, (Value.string (bs s_0))), (2, (Value.pointer (some ⟨b1, 0, none⟩))), (4, (Value.pointer (some ⟨b2, 0, none⟩))), (5, (Value.int .i64 b))] ∧ InR .i64 b) ?_ ?_ N _ a w hL ⟨ok, E.keep [0, 2, 4, 5], (show InR .i64 (0) by decide)⟩
      · rintro k_75 a w r ⟨ok, E, r76⟩ hF
        replace hF : calqueref07_Split_b2 N s_0 k_75 = some r := hF
        unfold calqueref07_Split_b2 at hF
        refine wp_seq ?_
        refine wp_seq ?_
        refine c_region ?_
        refine l_val E ok (y_move rfl) rfl rfl fun a E => ?_
        refine l_val E ok (y_move rfl) rfl rfl fun a E => ?_
        refine l_val E ok (y_slen Tryz.underlying9 rfl) rfl rfl fun a E => ?_
        refine l_val E ok (y_lss rfl rfl) rfl rfl fun a E => ?_
        refine l_val E ok (y_move rfl) rfl rfl fun a E => ?_
        refine bsplit (decide (k_75 < (s_0.length : Int))) (fun hc77 => ?_) (fun hc77 => ?_)
        rotate_left
        · replace hF := cond_f hc77 hF
          replace E := E.upd 21 hc77 rfl
          refine l_skip E rfl rfl fun a E => ?_
          refine l_skip E rfl rfl fun a E => ?_
          refine l_skip E rfl rfl fun a E => ?_
          refine l_skip E rfl rfl fun a E => ?_
          refine l_val E ok (y_pickF rfl rfl) rfl rfl fun a E => ?_
          refine wpList_nil ?_
          refine t_norm ?_
          refine c_if E rfl (fun h => by cases h) (fun _ => ?_)
          refine wp_exit ?_
          refine t_exit ?_
          obtain rfl := Option.some.inj hF
          exact step_o (by nofun) (⟨rfl, ⟨ok, E.keep [0, 2, 4, 5], r76⟩⟩)
        replace hF := cond_t hc77 hF
        replace E := E.upd 21 hc77 rfl
        refine l_val E ok (y_move rfl) rfl rfl fun a E => ?_
        refine l_val E ok (y_move rfl) rfl rfl fun a E => ?_
        obtain ⟨c78, e79, hF⟩ := bnd hF
        refine l_val E ok (y_index Tryz.underlying9 rfl rfl e79) rfl rfl fun a E => ?_
        refine l_val E ok (y_neq rfl rfl) rfl rfl fun a E => ?_
        refine l_val E ok (y_pickT rfl rfl) rfl rfl fun a E => ?_
        refine wpList_nil ?_
        refine t_norm ?_
        refine c_if E rfl (fun hc80 => ?_) (fun hc80 => ?_)
        rotate_left
        · replace hF := cond_f hc80 hF
          refine wp_exit ?_
          refine t_exit ?_
          obtain rfl := Option.some.inj hF
          exact step_o (by nofun) (⟨rfl, ⟨ok, E.keep [0, 2, 4, 5], r76⟩⟩)
        replace hF := cond_t hc80 hF
        refine wp_skip ?_
        refine t_norm ?_
        refine wp_block ?_
        refine c_region ?_
        refine l_val E ok (y_move rfl) rfl rfl fun a E => ?_
        refine l_val E ok (y_add rfl rfl (InR.inc r76 (InR.len ls_0) hc77)) rfl rfl fun a E => ?_
        refine l_val E ok (y_assign rfl) rfl rfl fun a E => ?_
        refine wpList_nil ?_
        refine b_norm ?_
        obtain rfl := Option.some.inj hF
        exact step_n ⟨ok, E.keep [0, 2, 4, 5], (InR.inc r76 (InR.len ls_0) hc77)⟩
      intro e a w _ hO
      obtain ⟨rfl, ok, E, r81⟩ := hO
      refine b_hit ?_
      refine t_norm ?_
      refine wp_seq ?_
      refine c_region ?_
      refine l_val E ok (y_move rfl) rfl rfl fun a E => ?_
      refine l_val E ok (y_move rfl) rfl rfl fun a E => ?_
      obtain ⟨s82, e83, hF⟩ := bnd hF
      refine l_val E ok (y_sslice Tryz.underlying9 e83 rfl rfl ⟨_, rfl⟩) rfl rfl fun a E => ?_
      refine l_val E ok (y_fieldAddr fo_36_1 rfl) rfl rfl fun a E => ?_
      refine l_storeB E ok 0 rfl rfl rfl inf_9 rfl rfl ⟨rfl, trivial⟩ rfl rfl fun w ok => ?_
      refine wpList_nil ?_
      refine t_norm ?_
      refine wp_seq ?_
      refine wp_seq ?_
      refine c_region ?_
      refine l_val E ok (y_move rfl) rfl rfl fun a E => ?_
      refine l_val E ok (y_move rfl) rfl rfl fun a E => ?_
      refine l_val E ok (y_slen Tryz.underlying9 rfl) rfl rfl fun a E => ?_
      refine l_val E ok (y_lss rfl rfl) rfl rfl fun a E => ?_
      refine wpList_nil ?_
      refine t_norm ?_
      obtain ⟨o84, hJ, hF⟩ := bnd hF
      refine c_mono (Q' := fun e a w => (Sum.elim (fun b85 => e = .normal ∧ Ok u m0 ([(b2, Obj.cells [(Value.bool b85.Neg), (Value.string (bs b85.Whole)), (Value.string (bs b85.Frac))].toArray 36 (0, 0))] :: [(b1, Obj.cells [(Value.bool false), (Value.string (bs ([]))), (Value.string (bs ([])))].toArray 36 (0, 0))] :: S) w ∧ Env 98 a [(2, (Value.pointer (some ⟨b1, 0, none⟩))), (4, (Value.pointer (some ⟨b2, 0, none⟩)))] ∧ b85.Whole.length ≤ LIMS ∧ b85.Frac.length ≤ LIMS) (fun b88 => e = .ret ∧ calqueref07_Split_R u m0 S b88 a w)) o84) ?_ ?_
      · replace hF := hJ
        clear hJ
        refine c_if E rfl (fun hc89 => ?_) (fun hc89 => ?_)
        rotate_left
        · replace hF := cond_f hc89 hF
          refine wp_skip ?_
          obtain rfl := Option.some.inj hF
          exact (sl ⟨rfl, ⟨ok, E.keep [2, 4], (Nat.le_trans (slc_len e83) ls_0), (Nat.zero_le _)⟩⟩)
        replace hF := cond_t hc89 hF
        refine wp_seq ?_
        refine c_region ?_
        refine l_val E ok (y_move rfl) rfl rfl fun a E => ?_
        refine l_val E ok (y_move rfl) rfl rfl fun a E => ?_
        refine l_val E ok (y_add rfl rfl (InR.inc r81 (InR.len ls_0) hc89)) rfl rfl fun a E => ?_
        obtain ⟨s90, e91, hF⟩ := bnd hF
        refine l_val E ok (y_sslice Tryz.underlying9 e91 rfl ⟨_, rfl⟩ rfl) rfl rfl fun a E => ?_
        refine l_val E ok (y_fieldAddr fo_36_2 rfl) rfl rfl fun a E => ?_
        refine l_storeB E ok 0 rfl rfl rfl inf_9 rfl rfl ⟨rfl, trivial⟩ rfl rfl fun w ok => ?_
        refine wpList_nil ?_
        refine t_norm ?_
        refine wp_seq ?_
        refine c_region ?_
        refine l_val E ok (y_fieldAddr fo_36_2 rfl) rfl rfl fun a E => ?_
        refine l_val E ok (y_load one_9 rfl (Holds.own 0 rfl rfl)) rfl rfl fun a E => ?_
        refine l_val E ok (y_slen Tryz.underlying9 rfl) rfl rfl fun a E => ?_
        refine l_val E ok (y_eql rfl rfl) rfl rfl fun a E => ?_
        refine wpList_nil ?_
        refine t_norm ?_
        refine c_if E rfl (fun hc92 => ?_) (fun hc92 => ?_)
        rotate_left
        · replace hF := cond_f hc92 hF
          refine wp_skip ?_
          obtain rfl := Option.some.inj hF
          exact (sl ⟨rfl, ⟨ok, E.keep [2, 4], (Nat.le_trans (slc_len e83) ls_0), (Nat.le_trans (slc_len e91) ls_0)⟩⟩)
        replace hF := cond_t hc92 hF
        refine wp_seq ?_
        refine c_region ?_
        refine l_val E ok (y_build (ps := []) (qs := []) (cs := [(Value.bool false), (Value.string (bs ([]))), (Value.string (bs ([])))]) zero_36 places_36 rfl trivial rfl) rfl rfl fun a E => ?_
        refine l_storeB E ok 1 rfl rfl rfl inf_36 rfl rfl ⟨rfl, rfl, rfl, trivial⟩ rfl rfl fun w ok => ?_
        refine l_val E ok (y_assign rfl) rfl rfl fun a E => ?_
        refine wpList_nil ?_
        refine t_norm ?_
        refine wp_ret ?_
        have hret : calqueref07_Split_R u m0 S ((Number2.mk false ([]) ([])), false) a w := ⟨m0, [(Value.bool false), (Value.string (bs ([]))), (Value.string (bs ([])))], le_m0, ok.drop.drop, E.d, ⟨rv_c (cs := [(Value.bool false), (Value.string (bs ([]))), (Value.string (bs ([])))]) E ok rfl agg_36 rfl (Holds.own 1 rfl rfl), rv_t E rfl, trivial⟩, ⟨rfl, (Nat.zero_le _), (Nat.zero_le _)⟩⟩
        obtain rfl := Option.some.inj hF
        exact (sr ⟨rfl, hret⟩)
      clear hJ
      intro e a w hO
      rcases o84 with o84 | o84
      rotate_left
      · replace hF := elim_r hF
        obtain ⟨rfl, hret⟩ := hO
        refine t_ret ?_
        obtain rfl := Option.some.inj hF
        exact fin _ _ hret
      replace hF := elim_l hF
      obtain ⟨rfl, ok, E, l93, l94⟩ := hO
      refine t_norm ?_
      refine wp_seq ?_
      refine wp_seq ?_
      refine c_region ?_
      refine l_val E ok (y_fieldAddr fo_36_1 rfl) rfl rfl fun a E => ?_
      refine l_val E ok (y_load one_9 rfl (Holds.own 0 rfl rfl)) rfl rfl fun a E => ?_
      refine l_val E ok (y_fieldAddr fo_36_2 rfl) rfl rfl fun a E => ?_
      refine l_val E ok (y_load one_9 rfl (Holds.own 0 rfl rfl)) rfl rfl fun a E => ?_
      obtain ⟨s95, e96, hF⟩ := bnd hF
      refine l_val E ok (y_cat rfl rfl e96) rfl rfl fun a E => ?_
      obtain ⟨r97, e98, hF⟩ := bnd hF
      refine l_call E go_45 rfl (calqueref07_digits_w N s95 (cat_len e96) e98 hG ok) rfl rfl ?_
      rintro _ w ⟨rfl, ok⟩
      refine ⟨_, rfl, fun a E => ?_⟩
      refine l_val E ok (y_not rfl) rfl rfl fun a E => ?_
      refine l_val E ok (y_move rfl) rfl rfl fun a E => ?_
      refine bsplit (!r97) (fun hc99 => ?_) (fun hc99 => ?_)
      · replace hF := cond_t hc99 hF
        replace E := E.upd 54 hc99 rfl
        refine l_skip E rfl rfl fun a E => ?_
        refine l_skip E rfl rfl fun a E => ?_
        refine l_skip E rfl rfl fun a E => ?_
        refine l_skip E rfl rfl fun a E => ?_
        refine l_val E ok (y_pickT rfl rfl) rfl rfl fun a E => ?_
        refine l_val E ok (y_move rfl) rfl rfl fun a E => ?_
        refine l_skip E rfl rfl fun a E => ?_
        refine l_skip E rfl rfl fun a E => ?_
        refine l_skip E rfl rfl fun a E => ?_
        refine l_skip E rfl rfl fun a E => ?_
        refine l_val E ok (y_pickT rfl rfl) rfl rfl fun a E => ?_
        refine l_val E ok (y_move rfl) rfl rfl fun a E => ?_
        refine l_skip E rfl rfl fun a E => ?_
        refine l_skip E rfl rfl fun a E => ?_
        refine l_skip E rfl rfl fun a E => ?_
        refine l_skip E rfl rfl fun a E => ?_
        refine l_skip E rfl rfl fun a E => ?_
        refine l_skip E rfl rfl fun a E => ?_
        refine l_skip E rfl rfl fun a E => ?_
        refine l_skip E rfl rfl fun a E => ?_
        refine l_skip E rfl rfl fun a E => ?_
        refine l_skip E rfl rfl fun a E => ?_
        refine l_val E ok (y_pickT rfl rfl) rfl rfl fun a E => ?_
        refine l_val E ok (y_move rfl) rfl rfl fun a E => ?_
        refine l_skip E rfl rfl fun a E => ?_
        refine l_skip E rfl rfl fun a E => ?_
        refine l_skip E rfl rfl fun a E => ?_
        refine l_skip E rfl rfl fun a E => ?_
        refine l_val E ok (y_pickT rfl rfl) rfl rfl fun a E => ?_
        refine l_val E ok (y_move rfl) rfl rfl fun a E => ?_
        refine l_skip E rfl rfl fun a E => ?_
        refine l_skip E rfl rfl fun a E => ?_
        refine l_skip E rfl rfl fun a E => ?_
        refine l_skip E rfl rfl fun a E => ?_
        refine l_skip E rfl rfl fun a E => ?_
        refine l_skip E rfl rfl fun a E => ?_
        refine l_skip E rfl rfl fun a E => ?_
        refine l_skip E rfl rfl fun a E => ?_
        refine l_skip E rfl rfl fun a E => ?_
        refine l_skip E rfl rfl fun a E => ?_
        refine l_val E ok (y_pickT rfl rfl) rfl rfl fun a E => ?_
        refine wpList_nil ?_
        refine t_norm ?_
        refine c_if E rfl (fun _ => ?_) (fun h => by cases h)
        refine wp_seq ?_
        refine c_region ?_
        refine l_val E ok (y_build (ps := []) (qs := []) (cs := [(Value.bool false), (Value.string (bs ([]))), (Value.string (bs ([])))]) zero_36 places_36 rfl trivial rfl) rfl rfl fun a E => ?_
        refine l_storeB E ok 1 rfl rfl rfl inf_36 rfl rfl ⟨rfl, rfl, rfl, trivial⟩ rfl rfl fun w ok => ?_
        refine l_val E ok (y_assign rfl) rfl rfl fun a E => ?_
        refine wpList_nil ?_
        refine t_norm ?_
        refine wp_ret ?_
        refine t_ret ?_
        have hret : calqueref07_Split_R u m0 S ((Number2.mk false ([]) ([])), false) a w := ⟨m0, [(Value.bool false), (Value.string (bs ([]))), (Value.string (bs ([])))], le_m0, ok.drop.drop, E.d, ⟨rv_c (cs := [(Value.bool false), (Value.string (bs ([]))), (Value.string (bs ([])))]) E ok rfl agg_36 rfl (Holds.own 1 rfl rfl), rv_t E rfl, trivial⟩, ⟨rfl, (Nat.zero_le _), (Nat.zero_le _)⟩⟩
        obtain rfl := Option.some.inj hF
        exact fin _ _ hret
      replace hF := cond_f hc99 hF
      replace E := E.upd 54 hc99 rfl
      refine l_val E ok (y_fieldAddr fo_36_1 rfl) rfl rfl fun a E => ?_
      refine l_val E ok (y_load one_9 rfl (Holds.own 0 rfl rfl)) rfl rfl fun a E => ?_
      refine l_val E ok (y_slen Tryz.underlying9 rfl) rfl rfl fun a E => ?_
      refine l_val E ok (y_lss rfl rfl) rfl rfl fun a E => ?_
      refine l_val E ok (y_pickF rfl rfl) rfl rfl fun a E => ?_
      refine l_val E ok (y_move rfl) rfl rfl fun a E => ?_
      refine bsplit (decide ((o84.Whole.length : Int) < 1)) (fun hc100 => ?_) (fun hc100 => ?_)
      · replace hF := cond_t hc100 hF
        replace E := E.upd 60 hc100 rfl
        refine l_skip E rfl rfl fun a E => ?_
        refine l_skip E rfl rfl fun a E => ?_
        refine l_skip E rfl rfl fun a E => ?_
        refine l_skip E rfl rfl fun a E => ?_
        refine l_val E ok (y_pickT rfl rfl) rfl rfl fun a E => ?_
        refine l_val E ok (y_move rfl) rfl rfl fun a E => ?_
        refine l_skip E rfl rfl fun a E => ?_
        refine l_skip E rfl rfl fun a E => ?_
        refine l_skip E rfl rfl fun a E => ?_
        refine l_skip E rfl rfl fun a E => ?_
        refine l_skip E rfl rfl fun a E => ?_
        refine l_skip E rfl rfl fun a E => ?_
        refine l_skip E rfl rfl fun a E => ?_
        refine l_skip E rfl rfl fun a E => ?_
        refine l_skip E rfl rfl fun a E => ?_
        refine l_skip E rfl rfl fun a E => ?_
        refine l_val E ok (y_pickT rfl rfl) rfl rfl fun a E => ?_
        refine l_val E ok (y_move rfl) rfl rfl fun a E => ?_
        refine l_skip E rfl rfl fun a E => ?_
        refine l_skip E rfl rfl fun a E => ?_
        refine l_skip E rfl rfl fun a E => ?_
        refine l_skip E rfl rfl fun a E => ?_
        refine l_val E ok (y_pickT rfl rfl) rfl rfl fun a E => ?_
        refine l_val E ok (y_move rfl) rfl rfl fun a E => ?_
        refine l_skip E rfl rfl fun a E => ?_
        refine l_skip E rfl rfl fun a E => ?_
        refine l_skip E rfl rfl fun a E => ?_
        refine l_skip E rfl rfl fun a E => ?_
        refine l_skip E rfl rfl fun a E => ?_
        refine l_skip E rfl rfl fun a E => ?_
        refine l_skip E rfl rfl fun a E => ?_
        refine l_skip E rfl rfl fun a E => ?_
        refine l_skip E rfl rfl fun a E => ?_
        refine l_skip E rfl rfl fun a E => ?_
        refine l_val E ok (y_pickT rfl rfl) rfl rfl fun a E => ?_
        refine wpList_nil ?_
        refine t_norm ?_
        refine c_if E rfl (fun _ => ?_) (fun h => by cases h)
        refine wp_seq ?_
        refine c_region ?_
        refine l_val E ok (y_build (ps := []) (qs := []) (cs := [(Value.bool false), (Value.string (bs ([]))), (Value.string (bs ([])))]) zero_36 places_36 rfl trivial rfl) rfl rfl fun a E => ?_
        refine l_storeB E ok 1 rfl rfl rfl inf_36 rfl rfl ⟨rfl, rfl, rfl, trivial⟩ rfl rfl fun w ok => ?_
        refine l_val E ok (y_assign rfl) rfl rfl fun a E => ?_
        refine wpList_nil ?_
        refine t_norm ?_
        refine wp_ret ?_
        refine t_ret ?_
        have hret : calqueref07_Split_R u m0 S ((Number2.mk false ([]) ([])), false) a w := ⟨m0, [(Value.bool false), (Value.string (bs ([]))), (Value.string (bs ([])))], le_m0, ok.drop.drop, E.d, ⟨rv_c (cs := [(Value.bool false), (Value.string (bs ([]))), (Value.string (bs ([])))]) E ok rfl agg_36 rfl (Holds.own 1 rfl rfl), rv_t E rfl, trivial⟩, ⟨rfl, (Nat.zero_le _), (Nat.zero_le _)⟩⟩
        obtain rfl := Option.some.inj hF
        exact fin _ _ hret
      replace hF := cond_f hc100 hF
      replace E := E.upd 60 hc100 rfl
      refine l_val E ok (y_fieldAddr fo_36_1 rfl) rfl rfl fun a E => ?_
      refine l_val E ok (y_load one_9 rfl (Holds.own 0 rfl rfl)) rfl rfl fun a E => ?_
      refine l_val E ok (y_slen Tryz.underlying9 rfl) rfl rfl fun a E => ?_
      refine l_val E ok (y_gtr rfl rfl) rfl rfl fun a E => ?_
      refine l_val E ok (y_pickF rfl rfl) rfl rfl fun a E => ?_
      refine l_val E ok (y_move rfl) rfl rfl fun a E => ?_
      refine bsplit (decide ((o84.Whole.length : Int) > 15)) (fun hc101 => ?_) (fun hc101 => ?_)
      · replace hF := cond_t hc101 hF
        replace E := E.upd 66 hc101 rfl
        refine l_skip E rfl rfl fun a E => ?_
        refine l_skip E rfl rfl fun a E => ?_
        refine l_skip E rfl rfl fun a E => ?_
        refine l_skip E rfl rfl fun a E => ?_
        refine l_skip E rfl rfl fun a E => ?_
        refine l_skip E rfl rfl fun a E => ?_
        refine l_skip E rfl rfl fun a E => ?_
        refine l_skip E rfl rfl fun a E => ?_
        refine l_skip E rfl rfl fun a E => ?_
        refine l_skip E rfl rfl fun a E => ?_
        refine l_val E ok (y_pickT rfl rfl) rfl rfl fun a E => ?_
        refine l_val E ok (y_move rfl) rfl rfl fun a E => ?_
        refine l_skip E rfl rfl fun a E => ?_
        refine l_skip E rfl rfl fun a E => ?_
        refine l_skip E rfl rfl fun a E => ?_
        refine l_skip E rfl rfl fun a E => ?_
        refine l_val E ok (y_pickT rfl rfl) rfl rfl fun a E => ?_
        refine l_val E ok (y_move rfl) rfl rfl fun a E => ?_
        refine l_skip E rfl rfl fun a E => ?_
        refine l_skip E rfl rfl fun a E => ?_
        refine l_skip E rfl rfl fun a E => ?_
        refine l_skip E rfl rfl fun a E => ?_
        refine l_skip E rfl rfl fun a E => ?_
        refine l_skip E rfl rfl fun a E => ?_
        refine l_skip E rfl rfl fun a E => ?_
        refine l_skip E rfl rfl fun a E => ?_
        refine l_skip E rfl rfl fun a E => ?_
        refine l_skip E rfl rfl fun a E => ?_
        refine l_val E ok (y_pickT rfl rfl) rfl rfl fun a E => ?_
        refine wpList_nil ?_
        refine t_norm ?_
        refine c_if E rfl (fun _ => ?_) (fun h => by cases h)
        refine wp_seq ?_
        refine c_region ?_
        refine l_val E ok (y_build (ps := []) (qs := []) (cs := [(Value.bool false), (Value.string (bs ([]))), (Value.string (bs ([])))]) zero_36 places_36 rfl trivial rfl) rfl rfl fun a E => ?_
        refine l_storeB E ok 1 rfl rfl rfl inf_36 rfl rfl ⟨rfl, rfl, rfl, trivial⟩ rfl rfl fun w ok => ?_
        refine l_val E ok (y_assign rfl) rfl rfl fun a E => ?_
        refine wpList_nil ?_
        refine t_norm ?_
        refine wp_ret ?_
        refine t_ret ?_
        have hret : calqueref07_Split_R u m0 S ((Number2.mk false ([]) ([])), false) a w := ⟨m0, [(Value.bool false), (Value.string (bs ([]))), (Value.string (bs ([])))], le_m0, ok.drop.drop, E.d, ⟨rv_c (cs := [(Value.bool false), (Value.string (bs ([]))), (Value.string (bs ([])))]) E ok rfl agg_36 rfl (Holds.own 1 rfl rfl), rv_t E rfl, trivial⟩, ⟨rfl, (Nat.zero_le _), (Nat.zero_le _)⟩⟩
        obtain rfl := Option.some.inj hF
        exact fin _ _ hret
      replace hF := cond_f hc101 hF
      replace E := E.upd 66 hc101 rfl
      refine l_val E ok (y_fieldAddr fo_36_1 rfl) rfl rfl fun a E => ?_
      refine l_val E ok (y_load one_9 rfl (Holds.own 0 rfl rfl)) rfl rfl fun a E => ?_
      refine l_val E ok (y_slen Tryz.underlying9 rfl) rfl rfl fun a E => ?_
      refine l_val E ok (y_gtr rfl rfl) rfl rfl fun a E => ?_
      refine l_val E ok (y_move rfl) rfl rfl fun a E => ?_
      refine bsplit (decide ((o84.Whole.length : Int) > 1)) (fun hc102 => ?_) (fun hc102 => ?_)
      rotate_left
      · as_aux_lemma =>
          replace hF := cond_f hc102 hF
          replace E := E.upd 71 hc102 rfl
          refine l_skip E rfl rfl fun a E => ?_
          refine l_skip E rfl rfl fun a E => ?_
          refine l_skip E rfl rfl fun a E => ?_
          refine l_skip E rfl rfl fun a E => ?_
          refine l_val E ok (y_pickF rfl rfl) rfl rfl fun a E => ?_
          refine l_val E ok (y_pickF rfl rfl) rfl rfl fun a E => ?_
          refine l_val E ok (y_move rfl) rfl rfl fun a E => ?_
          refine l_val E ok (y_fieldAddr fo_36_2 rfl) rfl rfl fun a E => ?_
          refine l_val E ok (y_load one_9 rfl (Holds.own 0 rfl rfl)) rfl rfl fun a E => ?_
          refine l_val E ok (y_slen Tryz.underlying9 rfl) rfl rfl fun a E => ?_
          refine l_val E ok (y_gtr rfl rfl) rfl rfl fun a E => ?_
          refine l_val E ok (y_pickF rfl rfl) rfl rfl fun a E => ?_
          refine l_val E ok (y_move rfl) rfl rfl fun a E => ?_
          refine bsplit (decide ((o84.Frac.length : Int) > 6)) (fun hc113 => ?_) (fun hc113 => ?_)
          · replace hF := cond_t hc113 hF
            replace E := E.upd 84 hc113 rfl
            refine l_skip E rfl rfl fun a E => ?_
            refine l_skip E rfl rfl fun a E => ?_
            refine l_skip E rfl rfl fun a E => ?_
            refine l_skip E rfl rfl fun a E => ?_
            refine l_skip E rfl rfl fun a E => ?_
            refine l_skip E rfl rfl fun a E => ?_
            refine l_skip E rfl rfl fun a E => ?_
            refine l_skip E rfl rfl fun a E => ?_
            refine l_skip E rfl rfl fun a E => ?_
            refine l_skip E rfl rfl fun a E => ?_
            refine l_val E ok (y_pickT rfl rfl) rfl rfl fun a E => ?_
            refine wpList_nil ?_
            refine t_norm ?_
            refine c_if E rfl (fun _ => ?_) (fun h => by cases h)
            refine wp_seq ?_
            refine c_region ?_
            refine l_val E ok (y_build (ps := []) (qs := []) (cs := [(Value.bool false), (Value.string (bs ([]))), (Value.string (bs ([])))]) zero_36 places_36 rfl trivial rfl) rfl rfl fun a E => ?_
            refine l_storeB E ok 1 rfl rfl rfl inf_36 rfl rfl ⟨rfl, rfl, rfl, trivial⟩ rfl rfl fun w ok => ?_
            refine l_val E ok (y_assign rfl) rfl rfl fun a E => ?_
            refine wpList_nil ?_
            refine t_norm ?_
            refine wp_ret ?_
            refine t_ret ?_
            have hret : calqueref07_Split_R u m0 S ((Number2.mk false ([]) ([])), false) a w := ⟨m0, [(Value.bool false), (Value.string (bs ([]))), (Value.string (bs ([])))], le_m0, ok.drop.drop, E.d, ⟨rv_c (cs := [(Value.bool false), (Value.string (bs ([]))), (Value.string (bs ([])))]) E ok rfl agg_36 rfl (Holds.own 1 rfl rfl), rv_t E rfl, trivial⟩, ⟨rfl, (Nat.zero_le _), (Nat.zero_le _)⟩⟩
            obtain rfl := Option.some.inj hF
            exact fin _ _ hret
          replace hF := cond_f hc113 hF
          replace E := E.upd 84 hc113 rfl
          refine l_val E ok (y_fieldAddr fo_36_0 rfl) rfl rfl fun a E => ?_
          refine l_val E ok (y_load one_4 rfl (Holds.own 0 rfl rfl)) rfl rfl fun a E => ?_
          refine l_val E ok (y_move rfl) rfl rfl fun a E => ?_
          refine bsplit o84.Neg (fun hc114 => ?_) (fun hc114 => ?_)
          rotate_left
          · replace hF := cond_f hc114 hF
            replace E := E.upd 87 hc114 rfl
            refine l_skip E rfl rfl fun a E => ?_
            refine l_skip E rfl rfl fun a E => ?_
            refine l_skip E rfl rfl fun a E => ?_
            refine l_skip E rfl rfl fun a E => ?_
            refine l_skip E rfl rfl fun a E => ?_
            refine l_skip E rfl rfl fun a E => ?_
            refine l_val E ok (y_pickF rfl rfl) rfl rfl fun a E => ?_
            refine l_val E ok (y_pickF rfl rfl) rfl rfl fun a E => ?_
            refine wpList_nil ?_
            refine t_norm ?_
            refine c_if E rfl (fun h => by cases h) (fun _ => ?_)
            refine wp_skip ?_
            refine t_norm ?_
            refine wp_seq ?_
            refine c_region ?_
            refine l_val E ok (y_loadAgg (cs := [(Value.bool o84.Neg), (Value.string (bs o84.Whole)), (Value.string (bs o84.Frac))]) agg_36 rfl rfl (Holds.own 0 rfl rfl)) rfl rfl fun a E => ?_
            refine l_storeB E ok 1 rfl rfl rfl inf_36 rfl rfl ⟨rfl, rfl, rfl, trivial⟩ rfl rfl fun w ok => ?_
            refine l_val E ok (y_assign rfl) rfl rfl fun a E => ?_
            refine wpList_nil ?_
            refine t_norm ?_
            refine wp_ret ?_
            have hret : calqueref07_Split_R u m0 S (o84, true) a w := ⟨m0, [(Value.bool o84.Neg), (Value.string (bs o84.Whole)), (Value.string (bs o84.Frac))], le_m0, ok.drop.drop, E.d, ⟨rv_c (cs := [(Value.bool o84.Neg), (Value.string (bs o84.Whole)), (Value.string (bs o84.Frac))]) E ok rfl agg_36 rfl (Holds.own 1 rfl rfl), rv_t E rfl, trivial⟩, ⟨rfl, l93, l94⟩⟩
            obtain rfl := Option.some.inj hF
            exact fin _ _ hret
          replace hF := cond_t hc114 hF
          replace E := E.upd 87 hc114 rfl
          refine l_val E ok (y_fieldAddr fo_36_1 rfl) rfl rfl fun a E => ?_
          refine l_val E ok (y_load one_9 rfl (Holds.own 0 rfl rfl)) rfl rfl fun a E => ?_
          refine l_val E ok (y_fieldAddr fo_36_2 rfl) rfl rfl fun a E => ?_
          refine l_val E ok (y_load one_9 rfl (Holds.own 0 rfl rfl)) rfl rfl fun a E => ?_
          obtain ⟨s115, e116, hF⟩ := bnd hF
          refine l_val E ok (y_cat rfl rfl e116) rfl rfl fun a E => ?_
          obtain ⟨r117, e118, hF⟩ := bnd hF
          refine l_call E go_46 rfl (calqueref07_Zero_w N s115 (cat_len e116) e118 hG ok) rfl rfl ?_
          rintro _ w ⟨rfl, ok⟩
          refine ⟨_, rfl, fun a E => ?_⟩
          refine l_val E ok (y_pickT rfl rfl) rfl rfl fun a E => ?_
          refine l_val E ok (y_pickF rfl rfl) rfl rfl fun a E => ?_
          refine wpList_nil ?_
          refine t_norm ?_
          refine c_if E rfl (fun hc119 => ?_) (fun hc119 => ?_)
          · replace hF := cond_t hc119 hF
            refine wp_seq ?_
            refine c_region ?_
            refine l_val E ok (y_build (ps := []) (qs := []) (cs := [(Value.bool false), (Value.string (bs ([]))), (Value.string (bs ([])))]) zero_36 places_36 rfl trivial rfl) rfl rfl fun a E => ?_
            refine l_storeB E ok 1 rfl rfl rfl inf_36 rfl rfl ⟨rfl, rfl, rfl, trivial⟩ rfl rfl fun w ok => ?_
            refine l_val E ok (y_assign rfl) rfl rfl fun a E => ?_
            refine wpList_nil ?_
            refine t_norm ?_
            refine wp_ret ?_
            refine t_ret ?_
            have hret : calqueref07_Split_R u m0 S ((Number2.mk false ([]) ([])), false) a w := ⟨m0, [(Value.bool false), (Value.string (bs ([]))), (Value.string (bs ([])))], le_m0, ok.drop.drop, E.d, ⟨rv_c (cs := [(Value.bool false), (Value.string (bs ([]))), (Value.string (bs ([])))]) E ok rfl agg_36 rfl (Holds.own 1 rfl rfl), rv_t E rfl, trivial⟩, ⟨rfl, (Nat.zero_le _), (Nat.zero_le _)⟩⟩
            obtain rfl := Option.some.inj hF
            exact fin _ _ hret
          replace hF := cond_f hc119 hF
          refine wp_skip ?_
          refine t_norm ?_
          refine wp_seq ?_
          refine c_region ?_
          refine l_val E ok (y_loadAgg (cs := [(Value.bool o84.Neg), (Value.string (bs o84.Whole)), (Value.string (bs o84.Frac))]) agg_36 rfl rfl (Holds.own 0 rfl rfl)) rfl rfl fun a E => ?_
          refine l_storeB E ok 1 rfl rfl rfl inf_36 rfl rfl ⟨rfl, rfl, rfl, trivial⟩ rfl rfl fun w ok => ?_
          refine l_val E ok (y_assign rfl) rfl rfl fun a E => ?_
          refine wpList_nil ?_
          refine t_norm ?_
          refine wp_ret ?_
          have hret : calqueref07_Split_R u m0 S (o84, true) a w := ⟨m0, [(Value.bool o84.Neg), (Value.string (bs o84.Whole)), (Value.string (bs o84.Frac))], le_m0, ok.drop.drop, E.d, ⟨rv_c (cs := [(Value.bool o84.Neg), (Value.string (bs o84.Whole)), (Value.string (bs o84.Frac))]) E ok rfl agg_36 rfl (Holds.own 1 rfl rfl), rv_t E rfl, trivial⟩, ⟨rfl, l93, l94⟩⟩
          obtain rfl := Option.some.inj hF
          exact fin _ _ hret
      replace hF := cond_t hc102 hF
      replace E := E.upd 71 hc102 rfl
      refine l_val E ok (y_fieldAddr fo_36_1 rfl) rfl rfl fun a E => ?_
      refine l_val E ok (y_load one_9 rfl (Holds.own 0 rfl rfl)) rfl rfl fun a E => ?_
      obtain ⟨c103, e104, hF⟩ := bnd hF
      refine l_val E ok (y_index Tryz.underlying9 rfl rfl e104) rfl rfl fun a E => ?_
      refine l_val E ok (y_eql rfl rfl) rfl rfl fun a E => ?_
      refine l_val E ok (y_pickT rfl rfl) rfl rfl fun a E => ?_
      refine l_val E ok (y_pickF rfl rfl) rfl rfl fun a E => ?_
      refine l_val E ok (y_move rfl) rfl rfl fun a E => ?_
      refine bsplit ((c103.toNat : Int) == 48) (fun hc105 => ?_) (fun hc105 => ?_)
      · replace hF := cond_t hc105 hF
        replace E := E.upd 78 hc105 rfl
        refine l_skip E rfl rfl fun a E => ?_
        refine l_skip E rfl rfl fun a E => ?_
        refine l_skip E rfl rfl fun a E => ?_
        refine l_skip E rfl rfl fun a E => ?_
        refine l_val E ok (y_pickT rfl rfl) rfl rfl fun a E => ?_
        refine l_val E ok (y_move rfl) rfl rfl fun a E => ?_
        refine l_skip E rfl rfl fun a E => ?_
        refine l_skip E rfl rfl fun a E => ?_
        refine l_skip E rfl rfl fun a E => ?_
        refine l_skip E rfl rfl fun a E => ?_
        refine l_skip E rfl rfl fun a E => ?_
        refine l_skip E rfl rfl fun a E => ?_
        refine l_skip E rfl rfl fun a E => ?_
        refine l_skip E rfl rfl fun a E => ?_
        refine l_skip E rfl rfl fun a E => ?_
        refine l_skip E rfl rfl fun a E => ?_
        refine l_val E ok (y_pickT rfl rfl) rfl rfl fun a E => ?_
        refine wpList_nil ?_
        refine t_norm ?_
        refine c_if E rfl (fun _ => ?_) (fun h => by cases h)
        refine wp_seq ?_
        refine c_region ?_
        refine l_val E ok (y_build (ps := []) (qs := []) (cs := [(Value.bool false), (Value.string (bs ([]))), (Value.string (bs ([])))]) zero_36 places_36 rfl trivial rfl) rfl rfl fun a E => ?_
        refine l_storeB E ok 1 rfl rfl rfl inf_36 rfl rfl ⟨rfl, rfl, rfl, trivial⟩ rfl rfl fun w ok => ?_
        refine l_val E ok (y_assign rfl) rfl rfl fun a E => ?_
        refine wpList_nil ?_
        refine t_norm ?_
        refine wp_ret ?_
        refine t_ret ?_
        have hret : calqueref07_Split_R u m0 S ((Number2.mk false ([]) ([])), false) a w := ⟨m0, [(Value.bool false), (Value.string (bs ([]))), (Value.string (bs ([])))], le_m0, ok.drop.drop, E.d, ⟨rv_c (cs := [(Value.bool false), (Value.string (bs ([]))), (Value.string (bs ([])))]) E ok rfl agg_36 rfl (Holds.own 1 rfl rfl), rv_t E rfl, trivial⟩, ⟨rfl, (Nat.zero_le _), (Nat.zero_le _)⟩⟩
        obtain rfl := Option.some.inj hF
        exact fin _ _ hret
      replace hF := cond_f hc105 hF
      replace E := E.upd 78 hc105 rfl
      refine l_val E ok (y_fieldAddr fo_36_2 rfl) rfl rfl fun a E => ?_
      refine l_val E ok (y_load one_9 rfl (Holds.own 0 rfl rfl)) rfl rfl fun a E => ?_
      refine l_val E ok (y_slen Tryz.underlying9 rfl) rfl rfl fun a E => ?_
      refine l_val E ok (y_gtr rfl rfl) rfl rfl fun a E => ?_
      refine l_val E ok (y_pickF rfl rfl) rfl rfl fun a E => ?_
      refine l_val E ok (y_move rfl) rfl rfl fun a E => ?_
      refine bsplit (decide ((o84.Frac.length : Int) > 6)) (fun hc106 => ?_) (fun hc106 => ?_)
      · replace hF := cond_t hc106 hF
        replace E := E.upd 84 hc106 rfl
        refine l_skip E rfl rfl fun a E => ?_
        refine l_skip E rfl rfl fun a E => ?_
        refine l_skip E rfl rfl fun a E => ?_
        refine l_skip E rfl rfl fun a E => ?_
        refine l_skip E rfl rfl fun a E => ?_
        refine l_skip E rfl rfl fun a E => ?_
        refine l_skip E rfl rfl fun a E => ?_
        refine l_skip E rfl rfl fun a E => ?_
        refine l_skip E rfl rfl fun a E => ?_
        refine l_skip E rfl rfl fun a E => ?_
        refine l_val E ok (y_pickT rfl rfl) rfl rfl fun a E => ?_
        refine wpList_nil ?_
        refine t_norm ?_
        refine c_if E rfl (fun _ => ?_) (fun h => by cases h)
        refine wp_seq ?_
        refine c_region ?_
        refine l_val E ok (y_build (ps := []) (qs := []) (cs := [(Value.bool false), (Value.string (bs ([]))), (Value.string (bs ([])))]) zero_36 places_36 rfl trivial rfl) rfl rfl fun a E => ?_
        refine l_storeB E ok 1 rfl rfl rfl inf_36 rfl rfl ⟨rfl, rfl, rfl, trivial⟩ rfl rfl fun w ok => ?_
        refine l_val E ok (y_assign rfl) rfl rfl fun a E => ?_
        refine wpList_nil ?_
        refine t_norm ?_
        refine wp_ret ?_
        refine t_ret ?_
        have hret : calqueref07_Split_R u m0 S ((Number2.mk false ([]) ([])), false) a w := ⟨m0, [(Value.bool false), (Value.string (bs ([]))), (Value.string (bs ([])))], le_m0, ok.drop.drop, E.d, ⟨rv_c (cs := [(Value.bool false), (Value.string (bs ([]))), (Value.string (bs ([])))]) E ok rfl agg_36 rfl (Holds.own 1 rfl rfl), rv_t E rfl, trivial⟩, ⟨rfl, (Nat.zero_le _), (Nat.zero_le _)⟩⟩
        obtain rfl := Option.some.inj hF
        exact fin _ _ hret
      replace hF := cond_f hc106 hF
      replace E := E.upd 84 hc106 rfl
      refine l_val E ok (y_fieldAddr fo_36_0 rfl) rfl rfl fun a E => ?_
      refine l_val E ok (y_load one_4 rfl (Holds.own 0 rfl rfl)) rfl rfl fun a E => ?_
      refine l_val E ok (y_move rfl) rfl rfl fun a E => ?_
      refine bsplit o84.Neg (fun hc107 => ?_) (fun hc107 => ?_)
      rotate_left
      · replace hF := cond_f hc107 hF
        replace E := E.upd 87 hc107 rfl
        refine l_skip E rfl rfl fun a E => ?_
        refine l_skip E rfl rfl fun a E => ?_
        refine l_skip E rfl rfl fun a E => ?_
        refine l_skip E rfl rfl fun a E => ?_
        refine l_skip E rfl rfl fun a E => ?_
        refine l_skip E rfl rfl fun a E => ?_
        refine l_val E ok (y_pickF rfl rfl) rfl rfl fun a E => ?_
        refine l_val E ok (y_pickF rfl rfl) rfl rfl fun a E => ?_
        refine wpList_nil ?_
        refine t_norm ?_
        refine c_if E rfl (fun h => by cases h) (fun _ => ?_)
        refine wp_skip ?_
        refine t_norm ?_
        refine wp_seq ?_
        refine c_region ?_
        refine l_val E ok (y_loadAgg (cs := [(Value.bool o84.Neg), (Value.string (bs o84.Whole)), (Value.string (bs o84.Frac))]) agg_36 rfl rfl (Holds.own 0 rfl rfl)) rfl rfl fun a E => ?_
        refine l_storeB E ok 1 rfl rfl rfl inf_36 rfl rfl ⟨rfl, rfl, rfl, trivial⟩ rfl rfl fun w ok => ?_
        refine l_val E ok (y_assign rfl) rfl rfl fun a E => ?_
        refine wpList_nil ?_
        refine t_norm ?_
        refine wp_ret ?_
        have hret : calqueref07_Split_R u m0 S (o84, true) a w := ⟨m0, [(Value.bool o84.Neg), (Value.string (bs o84.Whole)), (Value.string (bs o84.Frac))], le_m0, ok.drop.drop, E.d, ⟨rv_c (cs := [(Value.bool o84.Neg), (Value.string (bs o84.Whole)), (Value.string (bs o84.Frac))]) E ok rfl agg_36 rfl (Holds.own 1 rfl rfl), rv_t E rfl, trivial⟩, ⟨rfl, l93, l94⟩⟩
        obtain rfl := Option.some.inj hF
        exact fin _ _ hret
      replace hF := cond_t hc107 hF
      replace E := E.upd 87 hc107 rfl
      refine l_val E ok (y_fieldAddr fo_36_1 rfl) rfl rfl fun a E => ?_
      refine l_val E ok (y_load one_9 rfl (Holds.own 0 rfl rfl)) rfl rfl fun a E => ?_
      refine l_val E ok (y_fieldAddr fo_36_2 rfl) rfl rfl fun a E => ?_
      refine l_val E ok (y_load one_9 rfl (Holds.own 0 rfl rfl)) rfl rfl fun a E => ?_
      obtain ⟨s108, e109, hF⟩ := bnd hF
      refine l_val E ok (y_cat rfl rfl e109) rfl rfl fun a E => ?_
      obtain ⟨r110, e111, hF⟩ := bnd hF
      refine l_call E go_46 rfl (calqueref07_Zero_w N s108 (cat_len e109) e111 hG ok) rfl rfl ?_
      rintro _ w ⟨rfl, ok⟩
      refine ⟨_, rfl, fun a E => ?_⟩
      refine l_val E ok (y_pickT rfl rfl) rfl rfl fun a E => ?_
      refine l_val E ok (y_pickF rfl rfl) rfl rfl fun a E => ?_
      refine wpList_nil ?_
      refine t_norm ?_
      refine c_if E rfl (fun hc112 => ?_) (fun hc112 => ?_)
      · replace hF := cond_t hc112 hF
        refine wp_seq ?_
        refine c_region ?_
        refine l_val E ok (y_build (ps := []) (qs := []) (cs := [(Value.bool false), (Value.string (bs ([]))), (Value.string (bs ([])))]) zero_36 places_36 rfl trivial rfl) rfl rfl fun a E => ?_
        refine l_storeB E ok 1 rfl rfl rfl inf_36 rfl rfl ⟨rfl, rfl, rfl, trivial⟩ rfl rfl fun w ok => ?_
        refine l_val E ok (y_assign rfl) rfl rfl fun a E => ?_
        refine wpList_nil ?_
        refine t_norm ?_
        refine wp_ret ?_
        refine t_ret ?_
        have hret : calqueref07_Split_R u m0 S ((Number2.mk false ([]) ([])), false) a w := ⟨m0, [(Value.bool false), (Value.string (bs ([]))), (Value.string (bs ([])))], le_m0, ok.drop.drop, E.d, ⟨rv_c (cs := [(Value.bool false), (Value.string (bs ([]))), (Value.string (bs ([])))]) E ok rfl agg_36 rfl (Holds.own 1 rfl rfl), rv_t E rfl, trivial⟩, ⟨rfl, (Nat.zero_le _), (Nat.zero_le _)⟩⟩
        obtain rfl := Option.some.inj hF
        exact fin _ _ hret
      replace hF := cond_f hc112 hF
      refine wp_skip ?_
      refine t_norm ?_
      refine wp_seq ?_
      refine c_region ?_
      refine l_val E ok (y_loadAgg (cs := [(Value.bool o84.Neg), (Value.string (bs o84.Whole)), (Value.string (bs o84.Frac))]) agg_36 rfl rfl (Holds.own 0 rfl rfl)) rfl rfl fun a E => ?_
      refine l_storeB E ok 1 rfl rfl rfl inf_36 rfl rfl ⟨rfl, rfl, rfl, trivial⟩ rfl rfl fun w ok => ?_
      refine l_val E ok (y_assign rfl) rfl rfl fun a E => ?_
      refine wpList_nil ?_
      refine t_norm ?_
      refine wp_ret ?_
      have hret : calqueref07_Split_R u m0 S (o84, true) a w := ⟨m0, [(Value.bool o84.Neg), (Value.string (bs o84.Whole)), (Value.string (bs o84.Frac))], le_m0, ok.drop.drop, E.d, ⟨rv_c (cs := [(Value.bool o84.Neg), (Value.string (bs o84.Whole)), (Value.string (bs o84.Frac))]) E ok rfl agg_36 rfl (Holds.own 1 rfl rfl), rv_t E rfl, trivial⟩, ⟨rfl, l93, l94⟩⟩
      obtain rfl := Option.some.inj hF
      exact fin _ _ hret
  replace hF := cond_t hc3 hF
  replace E := E.upd 9 hc3 rfl
  refine l_val E ok (y_move rfl) rfl rfl fun a E => ?_
  obtain ⟨c4, e5, hF⟩ := bnd hF
  refine l_val E ok (y_index Tryz.underlying9 rfl rfl e5) rfl rfl fun a E => ?_
  refine l_val E ok (y_eql rfl rfl) rfl rfl fun a E => ?_
  refine l_val E ok (y_pickT rfl rfl) rfl rfl fun a E => ?_
  refine wpList_nil ?_
  refine t_norm ?_
  obtain ⟨o6, hJ, hF⟩ := bnd hF
  refine c_mono (Q' := fun e a w => e = .normal ∧ Ok u m0 ([(b2, Obj.cells [(Value.bool o6.2.Neg), (Value.string (bs o6.2.Whole)), (Value.string (bs o6.2.Frac))].toArray 36 (0, 0))] :: [(b1, Obj.cells [(Value.bool false), (Value.string (bs ([]))), (Value.string (bs ([])))].toArray 36 (0, 0))] :: S) w ∧ Env 98 a [(0, (Value.string (bs o6.1))), (2, (Value.pointer (some ⟨b1, 0, none⟩))), (4, (Value.pointer (some ⟨b2, 0, none⟩)))] ∧ o6.1.length ≤ LIMS ∧ o6.2.Whole.length ≤ LIMS ∧ o6.2.Frac.length ≤ LIMS) ?_ ?_
  · replace hF := hJ
    clear hJ
    refine c_if E rfl (fun hc10 => ?_) (fun hc10 => ?_)
    rotate_left
    · replace hF := cond_f hc10 hF
      refine wp_skip ?_
      obtain rfl := Option.some.inj hF
      exact ⟨rfl, ⟨ok, E.keep [0, 2, 4], ls_0, (Nat.zero_le _), (Nat.zero_le _)⟩⟩
    replace hF := cond_t hc10 hF
    obtain ⟨o11, hJ, hF⟩ := bnd hF
    refine c_mono (Q' := fun e a w => e = .normal ∧ Ok u m0 ([(b2, Obj.cells [(Value.bool o11.2.Neg), (Value.string (bs o11.2.Whole)), (Value.string (bs o11.2.Frac))].toArray 36 (0, 0))] :: [(b1, Obj.cells [(Value.bool false), (Value.string (bs ([]))), (Value.string (bs ([])))].toArray 36 (0, 0))] :: S) w ∧ Env 98 a [(0, (Value.string (bs o11.1))), (2, (Value.pointer (some ⟨b1, 0, none⟩))), (4, (Value.pointer (some ⟨b2, 0, none⟩)))] ∧ o11.1.length ≤ LIMS ∧ o11.2.Whole.length ≤ LIMS ∧ o11.2.Frac.length ≤ LIMS) ?_ ?_
    rotate_left
    · clear hJ
      intro e a w hO
      obtain ⟨rfl, ok, E, l17, l18, l19⟩ := hO
      obtain rfl := Option.some.inj hF
      exact ⟨rfl, ⟨ok, E.keep [0, 2, 4], l17, l18, l19⟩⟩
    replace hF := hJ
    clear hJ
    obtain ⟨s15, e16, hF⟩ := bnd hF
    obtain rfl := Option.some.inj hF
    refine k_begin [] (Cls u m0 ([(b1, Obj.cells [(Value.bool false), (Value.string (bs ([]))), (Value.string (bs ([])))].toArray 36 (0, 0))] :: [])) (Cls u m0 ([(b1, Obj.cells [(Value.bool false), (Value.string (bs ([]))), (Value.string (bs ([])))].toArray 36 (0, 0))] :: [])) (by kernel_rfl) ?_
    intro w hw
    replace ok := okdrew ok hw
    clear hw
    refine k_next (cl1 ⟨m0, _, le_m0, ok, ⟨memAt 1 rfl, trivial⟩⟩ ⟨m0, _, le_m0, ok, ⟨memAt 1 rfl, trivial⟩⟩) fun hT => ?_
    refine k_take 0 E rfl (by kernel_rfl) nP hT (y_move rfl) rfl rfl fun a E => ?_
    refine k_take 1 E rfl (by kernel_rfl) nP hT (y_sslice Tryz.underlying9 e16 rfl ⟨_, rfl⟩ rfl) rfl rfl fun a E => ?_
    refine k_take 2 E rfl (by kernel_rfl) nP hT (y_fieldAddr fo_36_0 rfl) rfl rfl fun a E => ?_
    refine k_all [3] (by kernel_rfl) rfl (one_c ?_)
    · refine wpOp_of_list (o := _) rfl ?_
      refine l_storeB E ok 0 rfl rfl rfl inf_4 rfl rfl ⟨rfl, trivial⟩ rfl rfl fun w ok => ?_
      refine wpList_nil ?_
      refine t_norm ?_
      refine k_next (cl1 ⟨m0, _, le_m0, ok, ⟨memAt 1 rfl, trivial⟩⟩ ⟨m0, _, le_m0, ok, ⟨memAt 1 rfl, trivial⟩⟩) fun hT => ?_
      refine k_take 4 E rfl (by kernel_rfl) nP hT (y_assign rfl) rfl rfl fun a E => ?_
      refine k_done (by kernel_rfl) ?_
      exact ⟨rfl, ⟨ok, E.keep [0, 2, 4], (Nat.le_trans (slc_len e16) ls_0), (Nat.zero_le _), (Nat.zero_le _)⟩⟩
  clear hJ
  intro e a w hO
  obtain ⟨rfl, ok, E, l20, l21, l22⟩ := hO
  refine t_norm ?_
  refine wp_seq ?_
  refine c_region ?_
  refine l_val E ok (y_assign rfl) rfl rfl fun a E => ?_
  refine wpList_nil ?_
  refine t_norm ?_
  refine wp_seq ?_
  refine wp_block ?_
  obtain ⟨o24, hL, hF⟩ := bnd hF
  refine c_loop _ (fun (s : Int) a w => Ok u m0 ([(b2, Obj.cells [(Value.bool o6.2.Neg), (Value.string (bs o6.2.Whole)), (Value.string (bs o6.2.Frac))].toArray 36 (0, 0))] :: [(b1, Obj.cells [(Value.bool false), (Value.string (bs ([]))), (Value.string (bs ([])))].toArray 36 (0, 0))] :: S) w ∧ Env 98 a [(0, (Value.string (bs o6.1))), (2, (Value.pointer (some ⟨b1, 0, none⟩))), (4, (Value.pointer (some ⟨b2, 0, none⟩))), (5, (Value.int .i64 s))] ∧ InR .i64 s) (fun (b : Int) e a w => e = (.exit 0) ∧ Ok u m0 ([(b2, Obj.cells [(Value.bool o6.2.Neg), (Value.string (bs o6.2.Whole)), (Value.string (bs o6.2.Frac))].toArray 36 (0, 0))] :: [(b1, Obj.cells [(Value.bool false), (Value.string (bs ([]))), (Value.string (bs ([])))].toArray 36 (0, 0))] :: S) w ∧ Env 98 a [(0, (Value.string (bs o6.1))), (2, (Value.pointer (some ⟨b1, 0, none⟩))), (4, (Value.pointer (some ⟨b2, 0, none⟩))), (5, (Value.int .i64 b))] ∧ InR .i64 b) ?_ ?_ N _ a w hL ⟨ok, E.keep [0, 2, 4, 5], (show InR .i64 (0) by decide)⟩
  · rintro k_26 a w r ⟨ok, E, r27⟩ hF
    replace hF : calqueref07_Split_b1 N o6 k_26 = some r := hF
    unfold calqueref07_Split_b1 at hF
    refine wp_seq ?_
    refine wp_seq ?_
    refine c_region ?_
    refine l_val E ok (y_move rfl) rfl rfl fun a E => ?_
    refine l_val E ok (y_move rfl) rfl rfl fun a E => ?_
    refine l_val E ok (y_slen Tryz.underlying9 rfl) rfl rfl fun a E => ?_
    refine l_val E ok (y_lss rfl rfl) rfl rfl fun a E => ?_
    refine l_val E ok (y_move rfl) rfl rfl fun a E => ?_
    refine bsplit (decide (k_26 < (o6.1.length : Int))) (fun hc28 => ?_) (fun hc28 => ?_)
    rotate_left
    · replace hF := cond_f hc28 hF
      replace E := E.upd 21 hc28 rfl
      refine l_skip E rfl rfl fun a E => ?_
      refine l_skip E rfl rfl fun a E => ?_
      refine l_skip E rfl rfl fun a E => ?_
      refine l_skip E rfl rfl fun a E => ?_
      refine l_val E ok (y_pickF rfl rfl) rfl rfl fun a E => ?_
      refine wpList_nil ?_
      refine t_norm ?_
      refine c_if E rfl (fun h => by cases h) (fun _ => ?_)
      refine wp_exit ?_
      refine t_exit ?_
      obtain rfl := Option.some.inj hF
      exact step_o (by nofun) (⟨rfl, ⟨ok, E.keep [0, 2, 4, 5], r27⟩⟩)
    replace hF := cond_t hc28 hF
    replace E := E.upd 21 hc28 rfl
    refine l_val E ok (y_move rfl) rfl rfl fun a E => ?_
    refine l_val E ok (y_move rfl) rfl rfl fun a E => ?_
    obtain ⟨c29, e30, hF⟩ := bnd hF
    refine l_val E ok (y_index Tryz.underlying9 rfl rfl e30) rfl rfl fun a E => ?_
    refine l_val E ok (y_neq rfl rfl) rfl rfl fun a E => ?_
    refine l_val E ok (y_pickT rfl rfl) rfl rfl fun a E => ?_
    refine wpList_nil ?_
    refine t_norm ?_
    refine c_if E rfl (fun hc31 => ?_) (fun hc31 => ?_)
    rotate_left
    · replace hF := cond_f hc31 hF
      refine wp_exit ?_
      refine t_exit ?_
      obtain rfl := Option.some.inj hF
      exact step_o (by nofun) (⟨rfl, ⟨ok, E.keep [0, 2, 4, 5], r27⟩⟩)
    replace hF := cond_t hc31 hF
    refine wp_skip ?_
    refine t_norm ?_
    refine wp_block ?_
    refine c_region ?_
    refine l_val E ok (y_move rfl) rfl rfl fun a E => ?_
    refine l_val E ok (y_add rfl rfl (InR.inc r27 (InR.len l20) hc28)) rfl rfl fun a E => ?_
    refine l_val E ok (y_assign rfl) rfl rfl fun a E => ?_
    refine wpList_nil ?_
    refine b_norm ?_
    obtain rfl := Option.some.inj hF
    exact step_n ⟨ok, E.keep [0, 2, 4, 5], (InR.inc r27 (InR.len l20) hc28)⟩
  intro e a w _ hO
  obtain ⟨rfl, ok, E, r32⟩ := hO
  refine b_hit ?_
  refine t_norm ?_
  refine wp_seq ?_
  refine c_region ?_
  refine l_val E ok (y_move rfl) rfl rfl fun a E => ?_
  refine l_val E ok (y_move rfl) rfl rfl fun a E => ?_
  obtain ⟨s33, e34, hF⟩ := bnd hF
  refine l_val E ok (y_sslice Tryz.underlying9 e34 rfl rfl ⟨_, rfl⟩) rfl rfl fun a E => ?_
  refine l_val E ok (y_fieldAddr fo_36_1 rfl) rfl rfl fun a E => ?_
  refine l_storeB E ok 0 rfl rfl rfl inf_9 rfl rfl ⟨rfl, trivial⟩ rfl rfl fun w ok => ?_
  refine wpList_nil ?_
  refine t_norm ?_
  refine wp_seq ?_
  refine wp_seq ?_
  refine c_region ?_
  refine l_val E ok (y_move rfl) rfl rfl fun a E => ?_
  refine l_val E ok (y_move rfl) rfl rfl fun a E => ?_
  refine l_val E ok (y_slen Tryz.underlying9 rfl) rfl rfl fun a E => ?_
  refine l_val E ok (y_lss rfl rfl) rfl rfl fun a E => ?_
  refine wpList_nil ?_
  refine t_norm ?_
  obtain ⟨o35, hJ, hF⟩ := bnd hF
  refine c_mono (Q' := fun e a w => (Sum.elim (fun b36 => e = .normal ∧ Ok u m0 ([(b2, Obj.cells [(Value.bool b36.Neg), (Value.string (bs b36.Whole)), (Value.string (bs b36.Frac))].toArray 36 (0, 0))] :: [(b1, Obj.cells [(Value.bool false), (Value.string (bs ([]))), (Value.string (bs ([])))].toArray 36 (0, 0))] :: S) w ∧ Env 98 a [(2, (Value.pointer (some ⟨b1, 0, none⟩))), (4, (Value.pointer (some ⟨b2, 0, none⟩)))] ∧ b36.Whole.length ≤ LIMS ∧ b36.Frac.length ≤ LIMS) (fun b39 => e = .ret ∧ calqueref07_Split_R u m0 S b39 a w)) o35) ?_ ?_
  · replace hF := hJ
    clear hJ
    refine c_if E rfl (fun hc40 => ?_) (fun hc40 => ?_)
    rotate_left
    · replace hF := cond_f hc40 hF
      refine wp_skip ?_
      obtain rfl := Option.some.inj hF
      exact (sl ⟨rfl, ⟨ok, E.keep [2, 4], (Nat.le_trans (slc_len e34) l20), l22⟩⟩)
    replace hF := cond_t hc40 hF
    refine wp_seq ?_
    refine c_region ?_
    refine l_val E ok (y_move rfl) rfl rfl fun a E => ?_
    refine l_val E ok (y_move rfl) rfl rfl fun a E => ?_
    refine l_val E ok (y_add rfl rfl (InR.inc r32 (InR.len l20) hc40)) rfl rfl fun a E => ?_
    obtain ⟨s41, e42, hF⟩ := bnd hF
    refine l_val E ok (y_sslice Tryz.underlying9 e42 rfl ⟨_, rfl⟩ rfl) rfl rfl fun a E => ?_
    refine l_val E ok (y_fieldAddr fo_36_2 rfl) rfl rfl fun a E => ?_
    refine l_storeB E ok 0 rfl rfl rfl inf_9 rfl rfl ⟨rfl, trivial⟩ rfl rfl fun w ok => ?_
    refine wpList_nil ?_
    refine t_norm ?_
    refine wp_seq ?_
    refine c_region ?_
    refine l_val E ok (y_fieldAddr fo_36_2 rfl) rfl rfl fun a E => ?_
    refine l_val E ok (y_load one_9 rfl (Holds.own 0 rfl rfl)) rfl rfl fun a E => ?_
    refine l_val E ok (y_slen Tryz.underlying9 rfl) rfl rfl fun a E => ?_
    refine l_val E ok (y_eql rfl rfl) rfl rfl fun a E => ?_
    refine wpList_nil ?_
    refine t_norm ?_
    refine c_if E rfl (fun hc43 => ?_) (fun hc43 => ?_)
    rotate_left
    · replace hF := cond_f hc43 hF
      refine wp_skip ?_
      obtain rfl := Option.some.inj hF
      exact (sl ⟨rfl, ⟨ok, E.keep [2, 4], (Nat.le_trans (slc_len e34) l20), (Nat.le_trans (slc_len e42) l20)⟩⟩)
    replace hF := cond_t hc43 hF
    refine wp_seq ?_
    refine c_region ?_
    refine l_val E ok (y_build (ps := []) (qs := []) (cs := [(Value.bool false), (Value.string (bs ([]))), (Value.string (bs ([])))]) zero_36 places_36 rfl trivial rfl) rfl rfl fun a E => ?_
    refine l_storeB E ok 1 rfl rfl rfl inf_36 rfl rfl ⟨rfl, rfl, rfl, trivial⟩ rfl rfl fun w ok => ?_
    refine l_val E ok (y_assign rfl) rfl rfl fun a E => ?_
    refine wpList_nil ?_
    refine t_norm ?_
    refine wp_ret ?_
    have hret : calqueref07_Split_R u m0 S ((Number2.mk false ([]) ([])), false) a w := ⟨m0, [(Value.bool false), (Value.string (bs ([]))), (Value.string (bs ([])))], le_m0, ok.drop.drop, E.d, ⟨rv_c (cs := [(Value.bool false), (Value.string (bs ([]))), (Value.string (bs ([])))]) E ok rfl agg_36 rfl (Holds.own 1 rfl rfl), rv_t E rfl, trivial⟩, ⟨rfl, (Nat.zero_le _), (Nat.zero_le _)⟩⟩
    obtain rfl := Option.some.inj hF
    exact (sr ⟨rfl, hret⟩)
  clear hJ
  intro e a w hO
  rcases o35 with o35 | o35
  rotate_left
  · replace hF := elim_r hF
    obtain ⟨rfl, hret⟩ := hO
    refine t_ret ?_
    obtain rfl := Option.some.inj hF
    exact fin _ _ hret
  replace hF := elim_l hF
  obtain ⟨rfl, ok, E, l44, l45⟩ := hO
  refine t_norm ?_
  refine wp_seq ?_
  refine wp_seq ?_
  refine c_region ?_
  refine l_val E ok (y_fieldAddr fo_36_1 rfl) rfl rfl fun a E => ?_
  refine l_val E ok (y_load one_9 rfl (Holds.own 0 rfl rfl)) rfl rfl fun a E => ?_
  refine l_val E ok (y_fieldAddr fo_36_2 rfl) rfl rfl fun a E => ?_
  refine l_val E ok (y_load one_9 rfl (Holds.own 0 rfl rfl)) rfl rfl fun a E => ?_
  obtain ⟨s46, e47, hF⟩ := bnd hF
  refine l_val E ok (y_cat rfl rfl e47) rfl rfl fun a E => ?_
  obtain ⟨r48, e49, hF⟩ := bnd hF
  refine l_call E go_45 rfl (calqueref07_digits_w N s46 (cat_len e47) e49 hG ok) rfl rfl ?_
  rintro _ w ⟨rfl, ok⟩
  refine ⟨_, rfl, fun a E => ?_⟩
  refine l_val E ok (y_not rfl) rfl rfl fun a E => ?_
  refine l_val E ok (y_move rfl) rfl rfl fun a E => ?_
  refine bsplit (!r48) (fun hc50 => ?_) (fun hc50 => ?_)
  · replace hF := cond_t hc50 hF
    replace E := E.upd 54 hc50 rfl
    refine l_skip E rfl rfl fun a E => ?_
    refine l_skip E rfl rfl fun a E => ?_
    refine l_skip E rfl rfl fun a E => ?_
    refine l_skip E rfl rfl fun a E => ?_
    refine l_val E ok (y_pickT rfl rfl) rfl rfl fun a E => ?_
    refine l_val E ok (y_move rfl) rfl rfl fun a E => ?_
    refine l_skip E rfl rfl fun a E => ?_
    refine l_skip E rfl rfl fun a E => ?_
    refine l_skip E rfl rfl fun a E => ?_
    refine l_skip E rfl rfl fun a E => ?_
    refine l_val E ok (y_pickT rfl rfl) rfl rfl fun a E => ?_
    refine l_val E ok (y_move rfl) rfl rfl fun a E => ?_
    refine l_skip E rfl rfl fun a E => ?_
    refine l_skip E rfl rfl fun a E => ?_
    refine l_skip E rfl rfl fun a E => ?_
    refine l_skip E rfl rfl fun a E => ?_
    refine l_skip E rfl rfl fun a E => ?_
    refine l_skip E rfl rfl fun a E => ?_
    refine l_skip E rfl rfl fun a E => ?_
    refine l_skip E rfl rfl fun a E => ?_
    refine l_skip E rfl rfl fun a E => ?_
    refine l_skip E rfl rfl fun a E => ?_
    refine l_val E ok (y_pickT rfl rfl) rfl rfl fun a E => ?_
    refine l_val E ok (y_move rfl) rfl rfl fun a E => ?_
    refine l_skip E rfl rfl fun a E => ?_
    refine l_skip E rfl rfl fun a E => ?_
    refine l_skip E rfl rfl fun a E => ?_
    refine l_skip E rfl rfl fun a E => ?_
    refine l_val E ok (y_pickT rfl rfl) rfl rfl fun a E => ?_
    refine l_val E ok (y_move rfl) rfl rfl fun a E => ?_
    refine l_skip E rfl rfl fun a E => ?_
    refine l_skip E rfl rfl fun a E => ?_
    refine l_skip E rfl rfl fun a E => ?_
    refine l_skip E rfl rfl fun a E => ?_
    refine l_skip E rfl rfl fun a E => ?_
    refine l_skip E rfl rfl fun a E => ?_
    refine l_skip E rfl rfl fun a E => ?_
    refine l_skip E rfl rfl fun a E => ?_
    refine l_skip E rfl rfl fun a E => ?_
    refine l_skip E rfl rfl fun a E => ?_
    refine l_val E ok (y_pickT rfl rfl) rfl rfl fun a E => ?_
    refine wpList_nil ?_
    refine t_norm ?_
    refine c_if E rfl (fun _ => ?_) (fun h => by cases h)
    refine wp_seq ?_
    refine c_region ?_
    refine l_val E ok (y_build (ps := []) (qs := []) (cs := [(Value.bool false), (Value.string (bs ([]))), (Value.string (bs ([])))]) zero_36 places_36 rfl trivial rfl) rfl rfl fun a E => ?_
    refine l_storeB E ok 1 rfl rfl rfl inf_36 rfl rfl ⟨rfl, rfl, rfl, trivial⟩ rfl rfl fun w ok => ?_
    refine l_val E ok (y_assign rfl) rfl rfl fun a E => ?_
    refine wpList_nil ?_
    refine t_norm ?_
    refine wp_ret ?_
    refine t_ret ?_
    have hret : calqueref07_Split_R u m0 S ((Number2.mk false ([]) ([])), false) a w := ⟨m0, [(Value.bool false), (Value.string (bs ([]))), (Value.string (bs ([])))], le_m0, ok.drop.drop, E.d, ⟨rv_c (cs := [(Value.bool false), (Value.string (bs ([]))), (Value.string (bs ([])))]) E ok rfl agg_36 rfl (Holds.own 1 rfl rfl), rv_t E rfl, trivial⟩, ⟨rfl, (Nat.zero_le _), (Nat.zero_le _)⟩⟩
    obtain rfl := Option.some.inj hF
    exact fin _ _ hret
  replace hF := cond_f hc50 hF
  replace E := E.upd 54 hc50 rfl
  refine l_val E ok (y_fieldAddr fo_36_1 rfl) rfl rfl fun a E => ?_
  refine l_val E ok (y_load one_9 rfl (Holds.own 0 rfl rfl)) rfl rfl fun a E => ?_
  refine l_val E ok (y_slen Tryz.underlying9 rfl) rfl rfl fun a E => ?_
  refine l_val E ok (y_lss rfl rfl) rfl rfl fun a E => ?_
  refine l_val E ok (y_pickF rfl rfl) rfl rfl fun a E => ?_
  refine l_val E ok (y_move rfl) rfl rfl fun a E => ?_
  refine bsplit (decide ((o35.Whole.length : Int) < 1)) (fun hc51 => ?_) (fun hc51 => ?_)
  · replace hF := cond_t hc51 hF
    replace E := E.upd 60 hc51 rfl
    refine l_skip E rfl rfl fun a E => ?_
    refine l_skip E rfl rfl fun a E => ?_
    refine l_skip E rfl rfl fun a E => ?_
    refine l_skip E rfl rfl fun a E => ?_
    refine l_val E ok (y_pickT rfl rfl) rfl rfl fun a E => ?_
    refine l_val E ok (y_move rfl) rfl rfl fun a E => ?_
    refine l_skip E rfl rfl fun a E => ?_
    refine l_skip E rfl rfl fun a E => ?_
    refine l_skip E rfl rfl fun a E => ?_
    refine l_skip E rfl rfl fun a E => ?_
    refine l_skip E rfl rfl fun a E => ?_
    refine l_skip E rfl rfl fun a E => ?_
    refine l_skip E rfl rfl fun a E => ?_
    refine l_skip E rfl rfl fun a E => ?_
    refine l_skip E rfl rfl fun a E => ?_
    refine l_skip E rfl rfl fun a E => ?_
    refine l_val E ok (y_pickT rfl rfl) rfl rfl fun a E => ?_
    refine l_val E ok (y_move rfl) rfl rfl fun a E => ?_
    refine l_skip E rfl rfl fun a E => ?_
    refine l_skip E rfl rfl fun a E => ?_
    refine l_skip E rfl rfl fun a E => ?_
    refine l_skip E rfl rfl fun a E => ?_
    refine l_val E ok (y_pickT rfl rfl) rfl rfl fun a E => ?_
    refine l_val E ok (y_move rfl) rfl rfl fun a E => ?_
    refine l_skip E rfl rfl fun a E => ?_
    refine l_skip E rfl rfl fun a E => ?_
    refine l_skip E rfl rfl fun a E => ?_
    refine l_skip E rfl rfl fun a E => ?_
    refine l_skip E rfl rfl fun a E => ?_
    refine l_skip E rfl rfl fun a E => ?_
    refine l_skip E rfl rfl fun a E => ?_
    refine l_skip E rfl rfl fun a E => ?_
    refine l_skip E rfl rfl fun a E => ?_
    refine l_skip E rfl rfl fun a E => ?_
    refine l_val E ok (y_pickT rfl rfl) rfl rfl fun a E => ?_
    refine wpList_nil ?_
    refine t_norm ?_
    refine c_if E rfl (fun _ => ?_) (fun h => by cases h)
    refine wp_seq ?_
    refine c_region ?_
    refine l_val E ok (y_build (ps := []) (qs := []) (cs := [(Value.bool false), (Value.string (bs ([]))), (Value.string (bs ([])))]) zero_36 places_36 rfl trivial rfl) rfl rfl fun a E => ?_
    refine l_storeB E ok 1 rfl rfl rfl inf_36 rfl rfl ⟨rfl, rfl, rfl, trivial⟩ rfl rfl fun w ok => ?_
    refine l_val E ok (y_assign rfl) rfl rfl fun a E => ?_
    refine wpList_nil ?_
    refine t_norm ?_
    refine wp_ret ?_
    refine t_ret ?_
    have hret : calqueref07_Split_R u m0 S ((Number2.mk false ([]) ([])), false) a w := ⟨m0, [(Value.bool false), (Value.string (bs ([]))), (Value.string (bs ([])))], le_m0, ok.drop.drop, E.d, ⟨rv_c (cs := [(Value.bool false), (Value.string (bs ([]))), (Value.string (bs ([])))]) E ok rfl agg_36 rfl (Holds.own 1 rfl rfl), rv_t E rfl, trivial⟩, ⟨rfl, (Nat.zero_le _), (Nat.zero_le _)⟩⟩
    obtain rfl := Option.some.inj hF
    exact fin _ _ hret
  replace hF := cond_f hc51 hF
  replace E := E.upd 60 hc51 rfl
  refine l_val E ok (y_fieldAddr fo_36_1 rfl) rfl rfl fun a E => ?_
  refine l_val E ok (y_load one_9 rfl (Holds.own 0 rfl rfl)) rfl rfl fun a E => ?_
  refine l_val E ok (y_slen Tryz.underlying9 rfl) rfl rfl fun a E => ?_
  refine l_val E ok (y_gtr rfl rfl) rfl rfl fun a E => ?_
  refine l_val E ok (y_pickF rfl rfl) rfl rfl fun a E => ?_
  refine l_val E ok (y_move rfl) rfl rfl fun a E => ?_
  refine bsplit (decide ((o35.Whole.length : Int) > 15)) (fun hc52 => ?_) (fun hc52 => ?_)
  · replace hF := cond_t hc52 hF
    replace E := E.upd 66 hc52 rfl
    refine l_skip E rfl rfl fun a E => ?_
    refine l_skip E rfl rfl fun a E => ?_
    refine l_skip E rfl rfl fun a E => ?_
    refine l_skip E rfl rfl fun a E => ?_
    refine l_skip E rfl rfl fun a E => ?_
    refine l_skip E rfl rfl fun a E => ?_
    refine l_skip E rfl rfl fun a E => ?_
    refine l_skip E rfl rfl fun a E => ?_
    refine l_skip E rfl rfl fun a E => ?_
    refine l_skip E rfl rfl fun a E => ?_
    refine l_val E ok (y_pickT rfl rfl) rfl rfl fun a E => ?_
    refine l_val E ok (y_move rfl) rfl rfl fun a E => ?_
    refine l_skip E rfl rfl fun a E => ?_
    refine l_skip E rfl rfl fun a E => ?_
    refine l_skip E rfl rfl fun a E => ?_
    refine l_skip E rfl rfl fun a E => ?_
    refine l_val E ok (y_pickT rfl rfl) rfl rfl fun a E => ?_
    refine l_val E ok (y_move rfl) rfl rfl fun a E => ?_
    refine l_skip E rfl rfl fun a E => ?_
    refine l_skip E rfl rfl fun a E => ?_
    refine l_skip E rfl rfl fun a E => ?_
    refine l_skip E rfl rfl fun a E => ?_
    refine l_skip E rfl rfl fun a E => ?_
    refine l_skip E rfl rfl fun a E => ?_
    refine l_skip E rfl rfl fun a E => ?_
    refine l_skip E rfl rfl fun a E => ?_
    refine l_skip E rfl rfl fun a E => ?_
    refine l_skip E rfl rfl fun a E => ?_
    refine l_val E ok (y_pickT rfl rfl) rfl rfl fun a E => ?_
    refine wpList_nil ?_
    refine t_norm ?_
    refine c_if E rfl (fun _ => ?_) (fun h => by cases h)
    refine wp_seq ?_
    refine c_region ?_
    refine l_val E ok (y_build (ps := []) (qs := []) (cs := [(Value.bool false), (Value.string (bs ([]))), (Value.string (bs ([])))]) zero_36 places_36 rfl trivial rfl) rfl rfl fun a E => ?_
    refine l_storeB E ok 1 rfl rfl rfl inf_36 rfl rfl ⟨rfl, rfl, rfl, trivial⟩ rfl rfl fun w ok => ?_
    refine l_val E ok (y_assign rfl) rfl rfl fun a E => ?_
    refine wpList_nil ?_
    refine t_norm ?_
    refine wp_ret ?_
    refine t_ret ?_
    have hret : calqueref07_Split_R u m0 S ((Number2.mk false ([]) ([])), false) a w := ⟨m0, [(Value.bool false), (Value.string (bs ([]))), (Value.string (bs ([])))], le_m0, ok.drop.drop, E.d, ⟨rv_c (cs := [(Value.bool false), (Value.string (bs ([]))), (Value.string (bs ([])))]) E ok rfl agg_36 rfl (Holds.own 1 rfl rfl), rv_t E rfl, trivial⟩, ⟨rfl, (Nat.zero_le _), (Nat.zero_le _)⟩⟩
    obtain rfl := Option.some.inj hF
    exact fin _ _ hret
  replace hF := cond_f hc52 hF
  replace E := E.upd 66 hc52 rfl
  refine l_val E ok (y_fieldAddr fo_36_1 rfl) rfl rfl fun a E => ?_
  refine l_val E ok (y_load one_9 rfl (Holds.own 0 rfl rfl)) rfl rfl fun a E => ?_
  refine l_val E ok (y_slen Tryz.underlying9 rfl) rfl rfl fun a E => ?_
  refine l_val E ok (y_gtr rfl rfl) rfl rfl fun a E => ?_
  refine l_val E ok (y_move rfl) rfl rfl fun a E => ?_
  refine bsplit (decide ((o35.Whole.length : Int) > 1)) (fun hc53 => ?_) (fun hc53 => ?_)
  rotate_left
  · as_aux_lemma =>
      replace hF := cond_f hc53 hF
      replace E := E.upd 71 hc53 rfl
      refine l_skip E rfl rfl fun a E => ?_
      refine l_skip E rfl rfl fun a E => ?_
      refine l_skip E rfl rfl fun a E => ?_
      refine l_skip E rfl rfl fun a E => ?_
      refine l_val E ok (y_pickF rfl rfl) rfl rfl fun a E => ?_
      refine l_val E ok (y_pickF rfl rfl) rfl rfl fun a E => ?_
      refine l_val E ok (y_move rfl) rfl rfl fun a E => ?_
      refine l_val E ok (y_fieldAddr fo_36_2 rfl) rfl rfl fun a E => ?_
      refine l_val E ok (y_load one_9 rfl (Holds.own 0 rfl rfl)) rfl rfl fun a E => ?_
      refine l_val E ok (y_slen Tryz.underlying9 rfl) rfl rfl fun a E => ?_
      refine l_val E ok (y_gtr rfl rfl) rfl rfl fun a E => ?_
      refine l_val E ok (y_pickF rfl rfl) rfl rfl fun a E => ?_
      refine l_val E ok (y_move rfl) rfl rfl fun a E => ?_
      refine bsplit (decide ((o35.Frac.length : Int) > 6)) (fun hc64 => ?_) (fun hc64 => ?_)
      · replace hF := cond_t hc64 hF
        replace E := E.upd 84 hc64 rfl
        refine l_skip E rfl rfl fun a E => ?_
        refine l_skip E rfl rfl fun a E => ?_
        refine l_skip E rfl rfl fun a E => ?_
        refine l_skip E rfl rfl fun a E => ?_
        refine l_skip E rfl rfl fun a E => ?_
        refine l_skip E rfl rfl fun a E => ?_
        refine l_skip E rfl rfl fun a E => ?_
        refine l_skip E rfl rfl fun a E => ?_
        refine l_skip E rfl rfl fun a E => ?_
        refine l_skip E rfl rfl fun a E => ?_
        refine l_val E ok (y_pickT rfl rfl) rfl rfl fun a E => ?_
        refine wpList_nil ?_
        refine t_norm ?_
        refine c_if E rfl (fun _ => ?_) (fun h => by cases h)
        refine wp_seq ?_
        refine c_region ?_
        refine l_val E ok (y_build (ps := []) (qs := []) (cs := [(Value.bool false), (Value.string (bs ([]))), (Value.string (bs ([])))]) zero_36 places_36 rfl trivial rfl) rfl rfl fun a E => ?_
        refine l_storeB E ok 1 rfl rfl rfl inf_36 rfl rfl ⟨rfl, rfl, rfl, trivial⟩ rfl rfl fun w ok => ?_
        refine l_val E ok (y_assign rfl) rfl rfl fun a E => ?_
        refine wpList_nil ?_
        refine t_norm ?_
        refine wp_ret ?_
        refine t_ret ?_
        have hret : calqueref07_Split_R u m0 S ((Number2.mk false ([]) ([])), false) a w := ⟨m0, [(Value.bool false), (Value.string (bs ([]))), (Value.string (bs ([])))], le_m0, ok.drop.drop, E.d, ⟨rv_c (cs := [(Value.bool false), (Value.string (bs ([]))), (Value.string (bs ([])))]) E ok rfl agg_36 rfl (Holds.own 1 rfl rfl), rv_t E rfl, trivial⟩, ⟨rfl, (Nat.zero_le _), (Nat.zero_le _)⟩⟩
        obtain rfl := Option.some.inj hF
        exact fin _ _ hret
      replace hF := cond_f hc64 hF
      replace E := E.upd 84 hc64 rfl
      refine l_val E ok (y_fieldAddr fo_36_0 rfl) rfl rfl fun a E => ?_
      refine l_val E ok (y_load one_4 rfl (Holds.own 0 rfl rfl)) rfl rfl fun a E => ?_
      refine l_val E ok (y_move rfl) rfl rfl fun a E => ?_
      refine bsplit o35.Neg (fun hc65 => ?_) (fun hc65 => ?_)
      rotate_left
      · replace hF := cond_f hc65 hF
        replace E := E.upd 87 hc65 rfl
        refine l_skip E rfl rfl fun a E => ?_
        refine l_skip E rfl rfl fun a E => ?_
        refine l_skip E rfl rfl fun a E => ?_
        refine l_skip E rfl rfl fun a E => ?_
        refine l_skip E rfl rfl fun a E => ?_
        refine l_skip E rfl rfl fun a E => ?_
        refine l_val E ok (y_pickF rfl rfl) rfl rfl fun a E => ?_
        refine l_val E ok (y_pickF rfl rfl) rfl rfl fun a E => ?_
        refine wpList_nil ?_
        refine t_norm ?_
        refine c_if E rfl (fun h => by cases h) (fun _ => ?_)
        refine wp_skip ?_
        refine t_norm ?_
        refine wp_seq ?_
        refine c_region ?_
        refine l_val E ok (y_loadAgg (cs := [(Value.bool o35.Neg), (Value.string (bs o35.Whole)), (Value.string (bs o35.Frac))]) agg_36 rfl rfl (Holds.own 0 rfl rfl)) rfl rfl fun a E => ?_
        refine l_storeB E ok 1 rfl rfl rfl inf_36 rfl rfl ⟨rfl, rfl, rfl, trivial⟩ rfl rfl fun w ok => ?_
        refine l_val E ok (y_assign rfl) rfl rfl fun a E => ?_
        refine wpList_nil ?_
        refine t_norm ?_
        refine wp_ret ?_
        have hret : calqueref07_Split_R u m0 S (o35, true) a w := ⟨m0, [(Value.bool o35.Neg), (Value.string (bs o35.Whole)), (Value.string (bs o35.Frac))], le_m0, ok.drop.drop, E.d, ⟨rv_c (cs := [(Value.bool o35.Neg), (Value.string (bs o35.Whole)), (Value.string (bs o35.Frac))]) E ok rfl agg_36 rfl (Holds.own 1 rfl rfl), rv_t E rfl, trivial⟩, ⟨rfl, l44, l45⟩⟩
        obtain rfl := Option.some.inj hF
        exact fin _ _ hret
      replace hF := cond_t hc65 hF
      replace E := E.upd 87 hc65 rfl
      refine l_val E ok (y_fieldAddr fo_36_1 rfl) rfl rfl fun a E => ?_
      refine l_val E ok (y_load one_9 rfl (Holds.own 0 rfl rfl)) rfl rfl fun a E => ?_
      refine l_val E ok (y_fieldAddr fo_36_2 rfl) rfl rfl fun a E => ?_
      refine l_val E ok (y_load one_9 rfl (Holds.own 0 rfl rfl)) rfl rfl fun a E => ?_
      obtain ⟨s66, e67, hF⟩ := bnd hF
      refine l_val E ok (y_cat rfl rfl e67) rfl rfl fun a E => ?_
      obtain ⟨r68, e69, hF⟩ := bnd hF
      refine l_call E go_46 rfl (calqueref07_Zero_w N s66 (cat_len e67) e69 hG ok) rfl rfl ?_
      rintro _ w ⟨rfl, ok⟩
      refine ⟨_, rfl, fun a E => ?_⟩
      refine l_val E ok (y_pickT rfl rfl) rfl rfl fun a E => ?_
      refine l_val E ok (y_pickF rfl rfl) rfl rfl fun a E => ?_
      refine wpList_nil ?_
      refine t_norm ?_
      refine c_if E rfl (fun hc70 => ?_) (fun hc70 => ?_)
      · replace hF := cond_t hc70 hF
        refine wp_seq ?_
        refine c_region ?_
        refine l_val E ok (y_build (ps := []) (qs := []) (cs := [(Value.bool false), (Value.string (bs ([]))), (Value.string (bs ([])))]) zero_36 places_36 rfl trivial rfl) rfl rfl fun a E => ?_
        refine l_storeB E ok 1 rfl rfl rfl inf_36 rfl rfl ⟨rfl, rfl, rfl, trivial⟩ rfl rfl fun w ok => ?_
        refine l_val E ok (y_assign rfl) rfl rfl fun a E => ?_
        refine wpList_nil ?_
        refine t_norm ?_
        refine wp_ret ?_
        refine t_ret ?_
        have hret : calqueref07_Split_R u m0 S ((Number2.mk false ([]) ([])), false) a w := ⟨m0, [(Value.bool false), (Value.string (bs ([]))), (Value.string (bs ([])))], le_m0, ok.drop.drop, E.d, ⟨rv_c (cs := [(Value.bool false), (Value.string (bs ([]))), (Value.string (bs ([])))]) E ok rfl agg_36 rfl (Holds.own 1 rfl rfl), rv_t E rfl, trivial⟩, ⟨rfl, (Nat.zero_le _), (Nat.zero_le _)⟩⟩
        obtain rfl := Option.some.inj hF
        exact fin _ _ hret
      replace hF := cond_f hc70 hF
      refine wp_skip ?_
      refine t_norm ?_
      refine wp_seq ?_
      refine c_region ?_
      refine l_val E ok (y_loadAgg (cs := [(Value.bool o35.Neg), (Value.string (bs o35.Whole)), (Value.string (bs o35.Frac))]) agg_36 rfl rfl (Holds.own 0 rfl rfl)) rfl rfl fun a E => ?_
      refine l_storeB E ok 1 rfl rfl rfl inf_36 rfl rfl ⟨rfl, rfl, rfl, trivial⟩ rfl rfl fun w ok => ?_
      refine l_val E ok (y_assign rfl) rfl rfl fun a E => ?_
      refine wpList_nil ?_
      refine t_norm ?_
      refine wp_ret ?_
      have hret : calqueref07_Split_R u m0 S (o35, true) a w := ⟨m0, [(Value.bool o35.Neg), (Value.string (bs o35.Whole)), (Value.string (bs o35.Frac))], le_m0, ok.drop.drop, E.d, ⟨rv_c (cs := [(Value.bool o35.Neg), (Value.string (bs o35.Whole)), (Value.string (bs o35.Frac))]) E ok rfl agg_36 rfl (Holds.own 1 rfl rfl), rv_t E rfl, trivial⟩, ⟨rfl, l44, l45⟩⟩
      obtain rfl := Option.some.inj hF
      exact fin _ _ hret
  replace hF := cond_t hc53 hF
  replace E := E.upd 71 hc53 rfl
  refine l_val E ok (y_fieldAddr fo_36_1 rfl) rfl rfl fun a E => ?_
  refine l_val E ok (y_load one_9 rfl (Holds.own 0 rfl rfl)) rfl rfl fun a E => ?_
  obtain ⟨c54, e55, hF⟩ := bnd hF
  refine l_val E ok (y_index Tryz.underlying9 rfl rfl e55) rfl rfl fun a E => ?_
  refine l_val E ok (y_eql rfl rfl) rfl rfl fun a E => ?_
  refine l_val E ok (y_pickT rfl rfl) rfl rfl fun a E => ?_
  refine l_val E ok (y_pickF rfl rfl) rfl rfl fun a E => ?_
  refine l_val E ok (y_move rfl) rfl rfl fun a E => ?_
  refine bsplit ((c54.toNat : Int) == 48) (fun hc56 => ?_) (fun hc56 => ?_)
  · replace hF := cond_t hc56 hF
    replace E := E.upd 78 hc56 rfl
    refine l_skip E rfl rfl fun a E => ?_
    refine l_skip E rfl rfl fun a E => ?_
    refine l_skip E rfl rfl fun a E => ?_
    refine l_skip E rfl rfl fun a E => ?_
    refine l_val E ok (y_pickT rfl rfl) rfl rfl fun a E => ?_
    refine l_val E ok (y_move rfl) rfl rfl fun a E => ?_
    refine l_skip E rfl rfl fun a E => ?_
    refine l_skip E rfl rfl fun a E => ?_
    refine l_skip E rfl rfl fun a E => ?_
    refine l_skip E rfl rfl fun a E => ?_
    refine l_skip E rfl rfl fun a E => ?_
    refine l_skip E rfl rfl fun a E => ?_
    refine l_skip E rfl rfl fun a E => ?_
    refine l_skip E rfl rfl fun a E => ?_
    refine l_skip E rfl rfl fun a E => ?_
    refine l_skip E rfl rfl fun a E => ?_
    refine l_val E ok (y_pickT rfl rfl) rfl rfl fun a E => ?_
    refine wpList_nil ?_
    refine t_norm ?_
    refine c_if E rfl (fun _ => ?_) (fun h => by cases h)
    refine wp_seq ?_
    refine c_region ?_
    refine l_val E ok (y_build (ps := []) (qs := []) (cs := [(Value.bool false), (Value.string (bs ([]))), (Value.string (bs ([])))]) zero_36 places_36 rfl trivial rfl) rfl rfl fun a E => ?_
    refine l_storeB E ok 1 rfl rfl rfl inf_36 rfl rfl ⟨rfl, rfl, rfl, trivial⟩ rfl rfl fun w ok => ?_
    refine l_val E ok (y_assign rfl) rfl rfl fun a E => ?_
    refine wpList_nil ?_
    refine t_norm ?_
    refine wp_ret ?_
    refine t_ret ?_
    have hret : calqueref07_Split_R u m0 S ((Number2.mk false ([]) ([])), false) a w := ⟨m0, [(Value.bool false), (Value.string (bs ([]))), (Value.string (bs ([])))], le_m0, ok.drop.drop, E.d, ⟨rv_c (cs := [(Value.bool false), (Value.string (bs ([]))), (Value.string (bs ([])))]) E ok rfl agg_36 rfl (Holds.own 1 rfl rfl), rv_t E rfl, trivial⟩, ⟨rfl, (Nat.zero_le _), (Nat.zero_le _)⟩⟩
    obtain rfl := Option.some.inj hF
    exact fin _ _ hret
  replace hF := cond_f hc56 hF
  replace E := E.upd 78 hc56 rfl
  refine l_val E ok (y_fieldAddr fo_36_2 rfl) rfl rfl fun a E => ?_
  refine l_val E ok (y_load one_9 rfl (Holds.own 0 rfl rfl)) rfl rfl fun a E => ?_
  refine l_val E ok (y_slen Tryz.underlying9 rfl) rfl rfl fun a E => ?_
  refine l_val E ok (y_gtr rfl rfl) rfl rfl fun a E => ?_
  refine l_val E ok (y_pickF rfl rfl) rfl rfl fun a E => ?_
  refine l_val E ok (y_move rfl) rfl rfl fun a E => ?_
  refine bsplit (decide ((o35.Frac.length : Int) > 6)) (fun hc57 => ?_) (fun hc57 => ?_)
  · replace hF := cond_t hc57 hF
    replace E := E.upd 84 hc57 rfl
    refine l_skip E rfl rfl fun a E => ?_
    refine l_skip E rfl rfl fun a E => ?_
    refine l_skip E rfl rfl fun a E => ?_
    refine l_skip E rfl rfl fun a E => ?_
    refine l_skip E rfl rfl fun a E => ?_
    refine l_skip E rfl rfl fun a E => ?_
    refine l_skip E rfl rfl fun a E => ?_
    refine l_skip E rfl rfl fun a E => ?_
    refine l_skip E rfl rfl fun a E => ?_
    refine l_skip E rfl rfl fun a E => ?_
    refine l_val E ok (y_pickT rfl rfl) rfl rfl fun a E => ?_
    refine wpList_nil ?_
    refine t_norm ?_
    refine c_if E rfl (fun _ => ?_) (fun h => by cases h)
    refine wp_seq ?_
    refine c_region ?_
    refine l_val E ok (y_build (ps := []) (qs := []) (cs := [(Value.bool false), (Value.string (bs ([]))), (Value.string (bs ([])))]) zero_36 places_36 rfl trivial rfl) rfl rfl fun a E => ?_
    refine l_storeB E ok 1 rfl rfl rfl inf_36 rfl rfl ⟨rfl, rfl, rfl, trivial⟩ rfl rfl fun w ok => ?_
    refine l_val E ok (y_assign rfl) rfl rfl fun a E => ?_
    refine wpList_nil ?_
    refine t_norm ?_
    refine wp_ret ?_
    refine t_ret ?_
    have hret : calqueref07_Split_R u m0 S ((Number2.mk false ([]) ([])), false) a w := ⟨m0, [(Value.bool false), (Value.string (bs ([]))), (Value.string (bs ([])))], le_m0, ok.drop.drop, E.d, ⟨rv_c (cs := [(Value.bool false), (Value.string (bs ([]))), (Value.string (bs ([])))]) E ok rfl agg_36 rfl (Holds.own 1 rfl rfl), rv_t E rfl, trivial⟩, ⟨rfl, (Nat.zero_le _), (Nat.zero_le _)⟩⟩
    obtain rfl := Option.some.inj hF
    exact fin _ _ hret
  replace hF := cond_f hc57 hF
  replace E := E.upd 84 hc57 rfl
  refine l_val E ok (y_fieldAddr fo_36_0 rfl) rfl rfl fun a E => ?_
  refine l_val E ok (y_load one_4 rfl (Holds.own 0 rfl rfl)) rfl rfl fun a E => ?_
  refine l_val E ok (y_move rfl) rfl rfl fun a E => ?_
  refine bsplit o35.Neg (fun hc58 => ?_) (fun hc58 => ?_)
  rotate_left
  · replace hF := cond_f hc58 hF
    replace E := E.upd 87 hc58 rfl
    refine l_skip E rfl rfl fun a E => ?_
    refine l_skip E rfl rfl fun a E => ?_
    refine l_skip E rfl rfl fun a E => ?_
    refine l_skip E rfl rfl fun a E => ?_
    refine l_skip E rfl rfl fun a E => ?_
    refine l_skip E rfl rfl fun a E => ?_
    refine l_val E ok (y_pickF rfl rfl) rfl rfl fun a E => ?_
    refine l_val E ok (y_pickF rfl rfl) rfl rfl fun a E => ?_
    refine wpList_nil ?_
    refine t_norm ?_
    refine c_if E rfl (fun h => by cases h) (fun _ => ?_)
    refine wp_skip ?_
    refine t_norm ?_
    refine wp_seq ?_
    refine c_region ?_
    refine l_val E ok (y_loadAgg (cs := [(Value.bool o35.Neg), (Value.string (bs o35.Whole)), (Value.string (bs o35.Frac))]) agg_36 rfl rfl (Holds.own 0 rfl rfl)) rfl rfl fun a E => ?_
    refine l_storeB E ok 1 rfl rfl rfl inf_36 rfl rfl ⟨rfl, rfl, rfl, trivial⟩ rfl rfl fun w ok => ?_
    refine l_val E ok (y_assign rfl) rfl rfl fun a E => ?_
    refine wpList_nil ?_
    refine t_norm ?_
    refine wp_ret ?_
    have hret : calqueref07_Split_R u m0 S (o35, true) a w := ⟨m0, [(Value.bool o35.Neg), (Value.string (bs o35.Whole)), (Value.string (bs o35.Frac))], le_m0, ok.drop.drop, E.d, ⟨rv_c (cs := [(Value.bool o35.Neg), (Value.string (bs o35.Whole)), (Value.string (bs o35.Frac))]) E ok rfl agg_36 rfl (Holds.own 1 rfl rfl), rv_t E rfl, trivial⟩, ⟨rfl, l44, l45⟩⟩
    obtain rfl := Option.some.inj hF
    exact fin _ _ hret
  replace hF := cond_t hc58 hF
  replace E := E.upd 87 hc58 rfl
  refine l_val E ok (y_fieldAddr fo_36_1 rfl) rfl rfl fun a E => ?_
  refine l_val E ok (y_load one_9 rfl (Holds.own 0 rfl rfl)) rfl rfl fun a E => ?_
  refine l_val E ok (y_fieldAddr fo_36_2 rfl) rfl rfl fun a E => ?_
  refine l_val E ok (y_load one_9 rfl (Holds.own 0 rfl rfl)) rfl rfl fun a E => ?_
  obtain ⟨s59, e60, hF⟩ := bnd hF
  refine l_val E ok (y_cat rfl rfl e60) rfl rfl fun a E => ?_
  obtain ⟨r61, e62, hF⟩ := bnd hF
  refine l_call E go_46 rfl (calqueref07_Zero_w N s59 (cat_len e60) e62 hG ok) rfl rfl ?_
  rintro _ w ⟨rfl, ok⟩
  refine ⟨_, rfl, fun a E => ?_⟩
  refine l_val E ok (y_pickT rfl rfl) rfl rfl fun a E => ?_
  refine l_val E ok (y_pickF rfl rfl) rfl rfl fun a E => ?_
  refine wpList_nil ?_
  refine t_norm ?_
  refine c_if E rfl (fun hc63 => ?_) (fun hc63 => ?_)
  · replace hF := cond_t hc63 hF
    refine wp_seq ?_
    refine c_region ?_
    refine l_val E ok (y_build (ps := []) (qs := []) (cs := [(Value.bool false), (Value.string (bs ([]))), (Value.string (bs ([])))]) zero_36 places_36 rfl trivial rfl) rfl rfl fun a E => ?_
    refine l_storeB E ok 1 rfl rfl rfl inf_36 rfl rfl ⟨rfl, rfl, rfl, trivial⟩ rfl rfl fun w ok => ?_
    refine l_val E ok (y_assign rfl) rfl rfl fun a E => ?_
    refine wpList_nil ?_
    refine t_norm ?_
    refine wp_ret ?_
    refine t_ret ?_
    have hret : calqueref07_Split_R u m0 S ((Number2.mk false ([]) ([])), false) a w := ⟨m0, [(Value.bool false), (Value.string (bs ([]))), (Value.string (bs ([])))], le_m0, ok.drop.drop, E.d, ⟨rv_c (cs := [(Value.bool false), (Value.string (bs ([]))), (Value.string (bs ([])))]) E ok rfl agg_36 rfl (Holds.own 1 rfl rfl), rv_t E rfl, trivial⟩, ⟨rfl, (Nat.zero_le _), (Nat.zero_le _)⟩⟩
    obtain rfl := Option.some.inj hF
    exact fin _ _ hret
  replace hF := cond_f hc63 hF
  refine wp_skip ?_
  refine t_norm ?_
  refine wp_seq ?_
  refine c_region ?_
  refine l_val E ok (y_loadAgg (cs := [(Value.bool o35.Neg), (Value.string (bs o35.Whole)), (Value.string (bs o35.Frac))]) agg_36 rfl rfl (Holds.own 0 rfl rfl)) rfl rfl fun a E => ?_
  refine l_storeB E ok 1 rfl rfl rfl inf_36 rfl rfl ⟨rfl, rfl, rfl, trivial⟩ rfl rfl fun w ok => ?_
  refine l_val E ok (y_assign rfl) rfl rfl fun a E => ?_
  refine wpList_nil ?_
  refine t_norm ?_
  refine wp_ret ?_
  have hret : calqueref07_Split_R u m0 S (o35, true) a w := ⟨m0, [(Value.bool o35.Neg), (Value.string (bs o35.Whole)), (Value.string (bs o35.Frac))], le_m0, ok.drop.drop, E.d, ⟨rv_c (cs := [(Value.bool o35.Neg), (Value.string (bs o35.Whole)), (Value.string (bs o35.Frac))]) E ok rfl agg_36 rfl (Holds.own 1 rfl rfl), rv_t E rfl, trivial⟩, ⟨rfl, l44, l45⟩⟩
  obtain rfl := Option.some.inj hF
  exact fin _ _ hret

def calqueref07_Valid_R (u : World) (m0 : Mem) (S : Segs) (r : Bool) (a : Act) (w : World) : Prop :=
  Ok u m0 S w ∧ a.defers = [] ∧ RVs Tryz.prog a w [.t 2 (.bool r)]
set_option maxHeartbeats 4000000 in
set_option maxRecDepth 100000 in
theorem calqueref07_Valid_w {u : World} {m0 : Mem} {S : Segs} {w : World} (N : Nat) (s_0 : List UInt8) (ls_0 : s_0.length ≤ LIMS) {r : Bool} (hF : calqueref07_Valid N s_0 = some r) (hG : Glob u) (ok : Ok u m0 S w) :
    Calls Tryz.prog 24 [Value.string (bs s_0)].toArray w fun e w' => (e = .returned (.bool r) ∧ Ok u m0 S w') := by
  have hb0 := ok.base
  have le_m0 := Mem.le.refl m0
  unfold calqueref07_Valid at hF
  have fin : ∀ a w, calqueref07_Valid_R u m0 S r a w → bodyPost Tryz.prog Tryz.f24 (fun e w' => (e = .returned (.bool r) ∧ Ok u m0 S w')) .ret a w := by
    intro a w h
    obtain ⟨ok, hd, hrv⟩ := h
    exact c_ret2 [.t 2 (.bool r)] hd rfl hrv ⟨rfl, ok⟩
  refine enter Tryz.func24 rfl rfl rfl fun a E => ?_
  refine wp_seq ?_
  refine c_region ?_
  refine l_val E ok (y_assign rfl) rfl rfl fun a E => ?_
  refine wpList_nil ?_
  refine t_norm ?_
  refine wp_seq ?_
  refine c_region ?_
  refine l_val E ok (y_move rfl) rfl rfl fun a E => ?_
  obtain ⟨r1, e2, hF⟩ := bnd hF
  refine l_call E go_21 rfl (calqueref07_Split_w N s_0 ls_0 e2 hG ok) rfl rfl ?_
  rintro _ w ⟨m3, vs4, rfl, hle, ok, h5⟩
  have le_m0 := le_m0.trans hle
  obtain ⟨rfl, l6, l7⟩ := h5
  refine ⟨_, rfl, fun a E => ?_⟩
  refine l_val E ok (y_move rfl) rfl rfl fun a E => ?_
  refine l_val E ok (y_extract rfl rfl) rfl rfl fun a E => ?_
  refine l_val E ok (y_extract rfl rfl) rfl rfl fun a E => ?_
  refine l_alloc E ok zero_36 rfl rfl fun b8 a w E ok => ?_
  refine l_storeB E ok 0 rfl rfl rfl inf_36 rfl rfl ⟨rfl, rfl, rfl, trivial⟩ rfl rfl fun w ok => ?_
  refine l_val E ok (y_assign rfl) rfl rfl fun a E => ?_
  refine wpList_nil ?_
  refine t_norm ?_
  refine wp_seq ?_
  refine c_region ?_
  refine l_val E ok (y_move rfl) rfl rfl fun a E => ?_
  refine l_val E ok (y_assign rfl) rfl rfl fun a E => ?_
  refine wpList_nil ?_
  refine t_norm ?_
  refine wp_ret ?_
  have hret : calqueref07_Valid_R u m0 S r1.2 a w := ⟨(ok.drop).down hb0 le_m0, E.d, ⟨rv_t E rfl, trivial⟩⟩
  obtain rfl := Option.some.inj hF
  exact fin _ _ hret

def calqueref07_Value_R (u : World) (m0 : Mem) (S : Segs) (r : Int) (a : Act) (w : World) : Prop :=
  Ok u m0 S w ∧ a.defers = [] ∧ RVs Tryz.prog a w [.t 2 (.int .i64 r)] ∧ InR .i64 r
set_option maxHeartbeats 4000000 in
set_option maxRecDepth 100000 in
theorem calqueref07_Value_w {u : World} {m0 : Mem} {S : Segs} {w : World} (N : Nat) (s_0 : List UInt8) (ls_0 : s_0.length ≤ LIMS) {r : Int} (hF : calqueref07_Value N s_0 = some r) (hG : Glob u) (ok : Ok u m0 S w) :
    Calls Tryz.prog 109 [Value.string (bs s_0)].toArray w fun e w' => (e = .returned (.int .i64 r) ∧ Ok u m0 S w') ∧ InR .i64 r := by
  have hb0 := ok.base
  have le_m0 := Mem.le.refl m0
  unfold calqueref07_Value at hF
  have fin : ∀ a w, calqueref07_Value_R u m0 S r a w → bodyPost Tryz.prog Tryz.f109 (fun e w' => (e = .returned (.int .i64 r) ∧ Ok u m0 S w') ∧ InR .i64 r) .ret a w := by
    intro a w h
    obtain ⟨ok, hd, hrv, h0⟩ := h
    exact c_ret2 [.t 2 (.int .i64 r)] hd rfl hrv ⟨⟨rfl, ok⟩, h0⟩
  refine enter Tryz.func109 rfl rfl rfl fun a E => ?_
  refine wp_seq ?_
  refine c_region ?_
  refine l_val E ok (y_assign rfl) rfl rfl fun a E => ?_
  refine wpList_nil ?_
  refine t_norm ?_
  refine wp_seq ?_
  refine c_region ?_
  refine l_val E ok (y_assign rfl) rfl rfl fun a E => ?_
  refine wpList_nil ?_
  refine t_norm ?_
  refine wp_seq ?_
  refine wp_seq ?_
  refine c_region ?_
  refine l_val E ok (y_assign rfl) rfl rfl fun a E => ?_
  refine wpList_nil ?_
  refine t_norm ?_
  refine wp_block ?_
  obtain ⟨o3, hL, hF⟩ := bnd hF
  refine c_loop _ (fun (s : Int × Int) a w => Ok u m0 (S) w ∧ Env 20 a [(0, (Value.string (bs s_0))), (3, (Value.int .i64 s.1)), (4, (Value.int .i64 s.2))] ∧ InR .i64 s.1 ∧ InR .i64 s.2) (fun (b : Int) e a w => e = (.exit 0) ∧ Ok u m0 (S) w ∧ Env 20 a [(3, (Value.int .i64 b))] ∧ InR .i64 b) ?_ ?_ N _ a w hL ⟨ok, E.keep [0, 3, 4], (show InR .i64 (0) by decide), (show InR .i64 (0) by decide)⟩
  rotate_left
  · intro e a w _ hO
    obtain ⟨rfl, ok, E, r13⟩ := hO
    refine b_hit ?_
    refine t_norm ?_
    refine wp_seq ?_
    refine c_region ?_
    refine l_val E ok (y_move rfl) rfl rfl fun a E => ?_
    refine l_val E ok (y_assign rfl) rfl rfl fun a E => ?_
    refine wpList_nil ?_
    refine t_norm ?_
    refine wp_ret ?_
    have hret : calqueref07_Value_R u m0 S o3 a w := ⟨ok, E.d, ⟨rv_t E rfl, trivial⟩, r13⟩
    obtain rfl := Option.some.inj hF
    exact fin _ _ hret
  rintro ⟨n_6, i_7⟩ a w r ⟨ok, E, r8, r9⟩ hF
  replace hF : calqueref07_Value_b1 N s_0 n_6 i_7 = some r := hF
  unfold calqueref07_Value_b1 at hF
  refine wp_seq ?_
  refine wp_seq ?_
  refine c_region ?_
  refine l_val E ok (y_move rfl) rfl rfl fun a E => ?_
  refine l_val E ok (y_move rfl) rfl rfl fun a E => ?_
  refine l_val E ok (y_slen Tryz.underlying9 rfl) rfl rfl fun a E => ?_
  refine l_val E ok (y_lss rfl rfl) rfl rfl fun a E => ?_
  refine wpList_nil ?_
  refine t_norm ?_
  refine c_if E rfl (fun hc10 => ?_) (fun hc10 => ?_)
  rotate_left
  · replace hF := cond_f hc10 hF
    refine wp_exit ?_
    refine t_exit ?_
    obtain rfl := Option.some.inj hF
    exact step_o (by nofun) (⟨rfl, ⟨ok, E.keep [3], r8⟩⟩)
  replace hF := cond_t hc10 hF
  refine wp_skip ?_
  refine t_norm ?_
  refine wp_seq ?_
  refine wp_block ?_
  refine c_region ?_
  refine l_val E ok (y_move rfl) rfl rfl fun a E => ?_
  refine l_val E ok (y_mulw rfl rfl) rfl rfl fun a E => ?_
  refine l_val E ok (y_move rfl) rfl rfl fun a E => ?_
  refine l_val E ok (y_move rfl) rfl rfl fun a E => ?_
  obtain ⟨c11, e12, hF⟩ := bnd hF
  refine l_val E ok (y_index Tryz.underlying9 rfl rfl e12) rfl rfl fun a E => ?_
  refine l_val E ok (y_subw rfl rfl) rfl rfl fun a E => ?_
  refine l_val E ok (y_convw Tryz.underlying5 Tryz.underlying3 rfl (InR.wrap _ _) (by decide)) rfl rfl fun a E => ?_
  refine l_val E ok (y_addw rfl rfl) rfl rfl fun a E => ?_
  refine l_val E ok (y_assign rfl) rfl rfl fun a E => ?_
  refine wpList_nil ?_
  refine b_norm ?_
  refine t_norm ?_
  refine c_region ?_
  refine l_val E ok (y_move rfl) rfl rfl fun a E => ?_
  refine l_val E ok (y_add rfl rfl (InR.inc r9 (InR.len ls_0) hc10)) rfl rfl fun a E => ?_
  refine l_val E ok (y_assign rfl) rfl rfl fun a E => ?_
  refine wpList_nil ?_
  obtain rfl := Option.some.inj hF
  exact step_n ⟨ok, E.keep [0, 3, 4], (InR.wrap _ _), (InR.inc r9 (InR.len ls_0) hc10)⟩

def calqueref07_Trim_R (u : World) (m0 : Mem) (S : Segs) (r : (List UInt8)) (a : Act) (w : World) : Prop :=
  Ok u m0 S w ∧ a.defers = [] ∧ RVs Tryz.prog a w [.t 2 (.string (bs r))] ∧ r.length ≤ LIMS
set_option maxHeartbeats 4000000 in
set_option maxRecDepth 100000 in
theorem calqueref07_Trim_w {u : World} {m0 : Mem} {S : Segs} {w : World} (N : Nat) (s_0 : List UInt8) (ls_0 : s_0.length ≤ LIMS) {r : (List UInt8)} (hF : calqueref07_Trim N s_0 = some r) (hG : Glob u) (ok : Ok u m0 S w) :
    Calls Tryz.prog 110 [Value.string (bs s_0)].toArray w fun e w' => (e = .returned (.string (bs r)) ∧ Ok u m0 S w') ∧ r.length ≤ LIMS := by
  have hb0 := ok.base
  have le_m0 := Mem.le.refl m0
  unfold calqueref07_Trim at hF
  have fin : ∀ a w, calqueref07_Trim_R u m0 S r a w → bodyPost Tryz.prog Tryz.f110 (fun e w' => (e = .returned (.string (bs r)) ∧ Ok u m0 S w') ∧ r.length ≤ LIMS) .ret a w := by
    intro a w h
    obtain ⟨ok, hd, hrv, h0⟩ := h
    exact c_ret2 [.t 2 (.string (bs r))] hd rfl hrv ⟨⟨rfl, ok⟩, h0⟩
  refine enter Tryz.func110 rfl rfl rfl fun a E => ?_
  refine wp_seq ?_
  refine c_region ?_
  refine l_val E ok (y_assign rfl) rfl rfl fun a E => ?_
  refine wpList_nil ?_
  refine t_norm ?_
  refine wp_seq ?_
  refine wp_block ?_
  obtain ⟨o2, hL, hF⟩ := bnd hF
  refine c_loop _ (fun (s : (List UInt8)) a w => Ok u m0 (S) w ∧ Env 20 a [(0, (Value.string (bs s)))] ∧ s.length ≤ LIMS) (fun (b : ((List UInt8))) e a w => e = (.exit 0) ∧ Ok u m0 (S) w ∧ Env 20 a [(0, (Value.string (bs b)))] ∧ b.length ≤ LIMS) ?_ ?_ N _ a w hL ⟨ok, E.keep [0], ls_0⟩
  rotate_left
  · intro e a w _ hO
    obtain ⟨rfl, ok, E, l12⟩ := hO
    refine b_hit ?_
    refine t_norm ?_
    refine wp_seq ?_
    refine c_region ?_
    refine l_val E ok (y_move rfl) rfl rfl fun a E => ?_
    refine l_val E ok (y_assign rfl) rfl rfl fun a E => ?_
    refine wpList_nil ?_
    refine t_norm ?_
    refine wp_ret ?_
    have hret : calqueref07_Trim_R u m0 S o2 a w := ⟨ok, E.d, ⟨rv_t E rfl, trivial⟩, l12⟩
    obtain rfl := Option.some.inj hF
    exact fin _ _ hret
  rintro s_4 a w r ⟨ok, E, l5⟩ hF
  replace hF : calqueref07_Trim_b1 N s_4 = some r := hF
  unfold calqueref07_Trim_b1 at hF
  refine wp_seq ?_
  refine wp_seq ?_
  refine c_region ?_
  refine l_val E ok (y_move rfl) rfl rfl fun a E => ?_
  refine l_val E ok (y_slen Tryz.underlying9 rfl) rfl rfl fun a E => ?_
  refine l_val E ok (y_gtr rfl rfl) rfl rfl fun a E => ?_
  refine l_val E ok (y_move rfl) rfl rfl fun a E => ?_
  refine bsplit (decide ((s_4.length : Int) > 0)) (fun hc6 => ?_) (fun hc6 => ?_)
  rotate_left
  · replace hF := cond_f hc6 hF
    replace E := E.upd 6 hc6 rfl
    refine l_skip E rfl rfl fun a E => ?_
    refine l_skip E rfl rfl fun a E => ?_
    refine l_skip E rfl rfl fun a E => ?_
    refine l_skip E rfl rfl fun a E => ?_
    refine l_skip E rfl rfl fun a E => ?_
    refine l_skip E rfl rfl fun a E => ?_
    refine l_val E ok (y_pickF rfl rfl) rfl rfl fun a E => ?_
    refine wpList_nil ?_
    refine t_norm ?_
    refine c_if E rfl (fun h => by cases h) (fun _ => ?_)
    refine wp_exit ?_
    refine t_exit ?_
    obtain rfl := Option.some.inj hF
    exact step_o (by nofun) (⟨rfl, ⟨ok, E.keep [0], l5⟩⟩)
  replace hF := cond_t hc6 hF
  replace E := E.upd 6 hc6 rfl
  refine l_val E ok (y_move rfl) rfl rfl fun a E => ?_
  refine l_val E ok (y_move rfl) rfl rfl fun a E => ?_
  refine l_val E ok (y_slen Tryz.underlying9 rfl) rfl rfl fun a E => ?_
  refine l_val E ok (y_sub rfl rfl (InR.dec (InR.len l5) (show InR .i64 (0) by decide) hc6)) rfl rfl fun a E => ?_
  obtain ⟨c7, e8, hF⟩ := bnd hF
  refine l_val E ok (y_index Tryz.underlying9 rfl rfl e8) rfl rfl fun a E => ?_
  refine l_val E ok (y_eql rfl rfl) rfl rfl fun a E => ?_
  refine l_val E ok (y_pickT rfl rfl) rfl rfl fun a E => ?_
  refine wpList_nil ?_
  refine t_norm ?_
  refine c_if E rfl (fun hc9 => ?_) (fun hc9 => ?_)
  rotate_left
  · replace hF := cond_f hc9 hF
    refine wp_exit ?_
    refine t_exit ?_
    obtain rfl := Option.some.inj hF
    exact step_o (by nofun) (⟨rfl, ⟨ok, E.keep [0], l5⟩⟩)
  replace hF := cond_t hc9 hF
  refine wp_skip ?_
  refine t_norm ?_
  refine wp_block ?_
  refine c_region ?_
  refine l_val E ok (y_move rfl) rfl rfl fun a E => ?_
  refine l_val E ok (y_move rfl) rfl rfl fun a E => ?_
  refine l_val E ok (y_slen Tryz.underlying9 rfl) rfl rfl fun a E => ?_
  refine l_val E ok (y_sub rfl rfl (InR.dec (InR.len l5) (show InR .i64 (0) by decide) hc6)) rfl rfl fun a E => ?_
  obtain ⟨s10, e11, hF⟩ := bnd hF
  refine l_val E ok (y_sslice Tryz.underlying9 e11 rfl rfl ⟨_, rfl⟩) rfl rfl fun a E => ?_
  refine l_val E ok (y_assign rfl) rfl rfl fun a E => ?_
  refine wpList_nil ?_
  refine b_norm ?_
  obtain rfl := Option.some.inj hF
  exact step_n ⟨ok, E.keep [0], (Nat.le_trans (slc_len e11) l5)⟩

def calqueref07_Operand_R (u : World) (m0 : Mem) (S : Segs) (r : Int × Int) (a : Act) (w : World) : Prop :=
  Ok u m0 S w ∧ a.defers = [] ∧ RVs Tryz.prog a w [.t 4 (.int .i64 r.1), .t 5 (.int .i64 r.2)] ∧ InR .i64 r.1 ∧ InR .i64 r.2
set_option maxHeartbeats 4000000 in
set_option maxRecDepth 100000 in
theorem calqueref07_Operand_w {u : World} {m0 : Mem} {S : Segs} {w : World} (N : Nat) (s_0 : List UInt8) (ls_0 : s_0.length ≤ LIMS) (operand_1 : Int) (roperand_1 : InR .i64 operand_1) {r : Int × Int} (hF : calqueref07_Operand N s_0 operand_1 = some r) (hG : Glob u) (ok : Ok u m0 S w) :
    Calls Tryz.prog 77 [Value.string (bs s_0), Value.int .i64 operand_1].toArray w fun e w' => (e = .returned (.tuple [(.int .i64 r.1), (.int .i64 r.2)].toArray) ∧ Ok u m0 S w') ∧ InR .i64 r.1 ∧ InR .i64 r.2 := by
  have hb0 := ok.base
  have le_m0 := Mem.le.refl m0
  unfold calqueref07_Operand at hF
  have fin : ∀ a w, calqueref07_Operand_R u m0 S r a w → bodyPost Tryz.prog Tryz.f77 (fun e w' => (e = .returned (.tuple [(.int .i64 r.1), (.int .i64 r.2)].toArray) ∧ Ok u m0 S w') ∧ InR .i64 r.1 ∧ InR .i64 r.2) .ret a w := by
    intro a w h
    obtain ⟨ok, hd, hrv, h0, h1⟩ := h
    exact c_ret2 [.t 4 (.int .i64 r.1), .t 5 (.int .i64 r.2)] hd rfl hrv ⟨⟨rfl, ok⟩, h0, h1⟩
  refine enter Tryz.func77 rfl rfl rfl fun a E => ?_
  refine wp_seq ?_
  refine c_region ?_
  refine l_val E ok (y_assign rfl) rfl rfl fun a E => ?_
  refine l_val E ok (y_assign rfl) rfl rfl fun a E => ?_
  refine wpList_nil ?_
  refine t_norm ?_
  refine wp_seq ?_
  refine c_region ?_
  refine l_val E ok (y_move rfl) rfl rfl fun a E => ?_
  obtain ⟨r1, e2, hF⟩ := bnd hF
  refine l_call E go_21 rfl (calqueref07_Split_w N s_0 ls_0 e2 hG ok) rfl rfl ?_
  rintro _ w ⟨m3, vs4, rfl, hle, ok, h5⟩
  have le_m0 := le_m0.trans hle
  obtain ⟨rfl, l6, l7⟩ := h5
  refine ⟨_, rfl, fun a E => ?_⟩
  refine l_val E ok (y_move rfl) rfl rfl fun a E => ?_
  refine l_val E ok (y_extract rfl rfl) rfl rfl fun a E => ?_
  refine l_val E ok (y_extract rfl rfl) rfl rfl fun a E => ?_
  refine l_alloc E ok zero_36 rfl rfl fun b8 a w E ok => ?_
  refine l_storeB E ok 0 rfl rfl rfl inf_36 rfl rfl ⟨rfl, rfl, rfl, trivial⟩ rfl rfl fun w ok => ?_
  refine l_val E ok (y_assign rfl) rfl rfl fun a E => ?_
  refine wpList_nil ?_
  refine t_norm ?_
  refine wp_seq ?_
  refine wp_seq ?_
  refine c_region ?_
  refine l_val E ok (y_move rfl) rfl rfl fun a E => ?_
  refine l_val E ok (y_not rfl) rfl rfl fun a E => ?_
  refine wpList_nil ?_
  refine t_norm ?_
  refine c_if E rfl (fun hc9 => ?_) (fun hc9 => ?_)
  · replace hF := cond_t hc9 hF
    refine wp_seq ?_
    refine c_region ?_
    refine l_val E ok (y_assign rfl) rfl rfl fun a E => ?_
    refine l_val E ok (y_assign rfl) rfl rfl fun a E => ?_
    refine wpList_nil ?_
    refine t_norm ?_
    refine wp_ret ?_
    refine t_ret ?_
    have hret : calqueref07_Operand_R u m0 S (0, 1) a w := ⟨(ok.drop).down hb0 le_m0, E.d, ⟨rv_t E rfl, rv_t E rfl, trivial⟩, (show InR .i64 (0) by decide), (show InR .i64 (1) by decide)⟩
    obtain rfl := Option.some.inj hF
    exact fin _ _ hret
  replace hF := cond_f hc9 hF
  refine wp_skip ?_
  refine t_norm ?_
  refine wp_seq ?_
  refine wp_seq ?_
  refine c_region ?_
  refine l_val E ok (y_move rfl) rfl rfl fun a E => ?_
  refine wpList_nil ?_
  refine t_norm ?_
  refine wp_block ?_
  refine wp_seq ?_
  refine c_region ?_
  refine l_val E ok (y_eql rfl rfl) rfl rfl fun a E => ?_
  refine l_val E ok (y_assign rfl) rfl rfl fun a E => ?_
  refine wpList_nil ?_
  refine t_norm ?_
  refine c_if E rfl (fun hc10 => ?_) (fun hc10 => ?_)
  · replace hF := cond_t hc10 hF
    refine wp_seq ?_
    refine wp_seq ?_
    refine c_region ?_
    refine l_val E ok (y_fieldAddr fo_36_2 rfl) rfl rfl fun a E => ?_
    refine l_val E ok (y_load one_9 rfl (Holds.own 0 rfl rfl)) rfl rfl fun a E => ?_
    obtain ⟨r11, e12, hF⟩ := bnd hF
    refine l_call E go_46 rfl (calqueref07_Zero_w N r1.1.Frac l7 e12 hG ok) rfl rfl ?_
    rintro _ w ⟨rfl, ok⟩
    refine ⟨_, rfl, fun a E => ?_⟩
    refine l_val E ok (y_not rfl) rfl rfl fun a E => ?_
    refine wpList_nil ?_
    refine t_norm ?_
    refine c_if E rfl (fun hc13 => ?_) (fun hc13 => ?_)
    · replace hF := cond_t hc13 hF
      refine wp_seq ?_
      refine c_region ?_
      refine l_val E ok (y_assign rfl) rfl rfl fun a E => ?_
      refine l_val E ok (y_assign rfl) rfl rfl fun a E => ?_
      refine wpList_nil ?_
      refine t_norm ?_
      refine wp_ret ?_
      refine t_ret ?_
      refine b_ret ?_
      refine t_ret ?_
      have hret : calqueref07_Operand_R u m0 S (0, 8) a w := ⟨(ok.drop).down hb0 le_m0, E.d, ⟨rv_t E rfl, rv_t E rfl, trivial⟩, (show InR .i64 (0) by decide), (show InR .i64 (8) by decide)⟩
      obtain rfl := Option.some.inj hF
      exact fin _ _ hret
    replace hF := cond_f hc13 hF
    refine wp_skip ?_
    refine t_norm ?_
    refine wp_seq ?_
    refine c_region ?_
    refine l_val E ok (y_fieldAddr fo_36_1 rfl) rfl rfl fun a E => ?_
    refine l_val E ok (y_load one_9 rfl (Holds.own 0 rfl rfl)) rfl rfl fun a E => ?_
    obtain ⟨r14, e15, hF⟩ := bnd hF
    refine l_call E go_109 rfl (calqueref07_Value_w N r1.1.Whole l6 e15 hG ok) rfl rfl ?_
    rintro _ w ⟨⟨rfl, ok⟩, r16⟩
    refine ⟨_, rfl, fun a E => ?_⟩
    refine l_val E ok (y_assign rfl) rfl rfl fun a E => ?_
    refine l_val E ok (y_assign rfl) rfl rfl fun a E => ?_
    refine wpList_nil ?_
    refine t_norm ?_
    refine wp_ret ?_
    refine b_ret ?_
    refine t_ret ?_
    have hret : calqueref07_Operand_R u m0 S (r14, 0) a w := ⟨(ok.drop).down hb0 le_m0, E.d, ⟨rv_t E rfl, rv_t E rfl, trivial⟩, r16, (show InR .i64 (0) by decide)⟩
    obtain rfl := Option.some.inj hF
    exact fin _ _ hret
  replace hF := cond_f hc10 hF
  refine wp_seq ?_
  refine c_region ?_
  refine l_val E ok (y_eql rfl rfl) rfl rfl fun a E => ?_
  refine l_val E ok (y_assign rfl) rfl rfl fun a E => ?_
  refine wpList_nil ?_
  refine t_norm ?_
  refine c_if E rfl (fun hc17 => ?_) (fun hc17 => ?_)
  · replace hF := cond_t hc17 hF
    refine wp_seq ?_
    refine c_region ?_
    refine l_val E ok (y_fieldAddr fo_36_1 rfl) rfl rfl fun a E => ?_
    refine l_val E ok (y_load one_9 rfl (Holds.own 0 rfl rfl)) rfl rfl fun a E => ?_
    obtain ⟨r18, e19, hF⟩ := bnd hF
    refine l_call E go_109 rfl (calqueref07_Value_w N r1.1.Whole l6 e19 hG ok) rfl rfl ?_
    rintro _ w ⟨⟨rfl, ok⟩, r20⟩
    refine ⟨_, rfl, fun a E => ?_⟩
    refine l_val E ok (y_assign rfl) rfl rfl fun a E => ?_
    refine l_val E ok (y_assign rfl) rfl rfl fun a E => ?_
    refine wpList_nil ?_
    refine t_norm ?_
    refine wp_ret ?_
    refine b_ret ?_
    refine t_ret ?_
    have hret : calqueref07_Operand_R u m0 S (r18, 0) a w := ⟨(ok.drop).down hb0 le_m0, E.d, ⟨rv_t E rfl, rv_t E rfl, trivial⟩, r20, (show InR .i64 (0) by decide)⟩
    obtain rfl := Option.some.inj hF
    exact fin _ _ hret
  replace hF := cond_f hc17 hF
  refine wp_seq ?_
  refine c_region ?_
  refine l_val E ok (y_eql rfl rfl) rfl rfl fun a E => ?_
  refine l_val E ok (y_assign rfl) rfl rfl fun a E => ?_
  refine wpList_nil ?_
  refine t_norm ?_
  refine c_if E rfl (fun hc21 => ?_) (fun hc21 => ?_)
  · replace hF := cond_t hc21 hF
    refine wp_seq ?_
    refine c_region ?_
    refine l_val E ok (y_fieldAddr fo_36_2 rfl) rfl rfl fun a E => ?_
    refine l_val E ok (y_load one_9 rfl (Holds.own 0 rfl rfl)) rfl rfl fun a E => ?_
    refine l_val E ok (y_slen Tryz.underlying9 rfl) rfl rfl fun a E => ?_
    refine l_val E ok (y_assign rfl) rfl rfl fun a E => ?_
    refine l_val E ok (y_assign rfl) rfl rfl fun a E => ?_
    refine wpList_nil ?_
    refine t_norm ?_
    refine wp_ret ?_
    refine b_ret ?_
    refine t_ret ?_
    have hret : calqueref07_Operand_R u m0 S ((r1.1.Frac.length : Int), 0) a w := ⟨(ok.drop).down hb0 le_m0, E.d, ⟨rv_t E rfl, rv_t E rfl, trivial⟩, (InR.len l7), (show InR .i64 (0) by decide)⟩
    obtain rfl := Option.some.inj hF
    exact fin _ _ hret
  replace hF := cond_f hc21 hF
  refine wp_seq ?_
  refine c_region ?_
  refine l_val E ok (y_eql rfl rfl) rfl rfl fun a E => ?_
  refine l_val E ok (y_assign rfl) rfl rfl fun a E => ?_
  refine wpList_nil ?_
  refine t_norm ?_
  refine c_if E rfl (fun hc22 => ?_) (fun hc22 => ?_)
  · replace hF := cond_t hc22 hF
    refine wp_seq ?_
    refine c_region ?_
    refine l_val E ok (y_fieldAddr fo_36_2 rfl) rfl rfl fun a E => ?_
    refine l_val E ok (y_load one_9 rfl (Holds.own 0 rfl rfl)) rfl rfl fun a E => ?_
    obtain ⟨r23, e24, hF⟩ := bnd hF
    refine l_call E go_110 rfl (calqueref07_Trim_w N r1.1.Frac l7 e24 hG ok) rfl rfl ?_
    rintro _ w ⟨⟨rfl, ok⟩, l25⟩
    refine ⟨_, rfl, fun a E => ?_⟩
    refine l_val E ok (y_slen Tryz.underlying9 rfl) rfl rfl fun a E => ?_
    refine l_val E ok (y_assign rfl) rfl rfl fun a E => ?_
    refine l_val E ok (y_assign rfl) rfl rfl fun a E => ?_
    refine wpList_nil ?_
    refine t_norm ?_
    refine wp_ret ?_
    refine b_ret ?_
    refine t_ret ?_
    have hret : calqueref07_Operand_R u m0 S ((r23.length : Int), 0) a w := ⟨(ok.drop).down hb0 le_m0, E.d, ⟨rv_t E rfl, rv_t E rfl, trivial⟩, (InR.len l25), (show InR .i64 (0) by decide)⟩
    obtain rfl := Option.some.inj hF
    exact fin _ _ hret
  replace hF := cond_f hc22 hF
  refine wp_seq ?_
  refine c_region ?_
  refine l_val E ok (y_eql rfl rfl) rfl rfl fun a E => ?_
  refine l_val E ok (y_assign rfl) rfl rfl fun a E => ?_
  refine wpList_nil ?_
  refine t_norm ?_
  refine c_if E rfl (fun hc26 => ?_) (fun hc26 => ?_)
  · replace hF := cond_t hc26 hF
    refine wp_seq ?_
    refine c_region ?_
    refine l_val E ok (y_fieldAddr fo_36_2 rfl) rfl rfl fun a E => ?_
    refine l_val E ok (y_load one_9 rfl (Holds.own 0 rfl rfl)) rfl rfl fun a E => ?_
    obtain ⟨r27, e28, hF⟩ := bnd hF
    refine l_call E go_109 rfl (calqueref07_Value_w N r1.1.Frac l7 e28 hG ok) rfl rfl ?_
    rintro _ w ⟨⟨rfl, ok⟩, r29⟩
    refine ⟨_, rfl, fun a E => ?_⟩
    refine l_val E ok (y_assign rfl) rfl rfl fun a E => ?_
    refine l_val E ok (y_assign rfl) rfl rfl fun a E => ?_
    refine wpList_nil ?_
    refine t_norm ?_
    refine wp_ret ?_
    refine b_ret ?_
    refine t_ret ?_
    have hret : calqueref07_Operand_R u m0 S (r27, 0) a w := ⟨(ok.drop).down hb0 le_m0, E.d, ⟨rv_t E rfl, rv_t E rfl, trivial⟩, r29, (show InR .i64 (0) by decide)⟩
    obtain rfl := Option.some.inj hF
    exact fin _ _ hret
  replace hF := cond_f hc26 hF
  refine wp_seq ?_
  refine c_region ?_
  refine l_val E ok (y_eql rfl rfl) rfl rfl fun a E => ?_
  refine l_val E ok (y_assign rfl) rfl rfl fun a E => ?_
  refine wpList_nil ?_
  refine t_norm ?_
  refine c_if E rfl (fun hc30 => ?_) (fun hc30 => ?_)
  rotate_left
  · replace hF := cond_f hc30 hF
    refine wp_skip ?_
    refine b_norm ?_
    refine t_norm ?_
    refine wp_seq ?_
    refine c_region ?_
    refine l_val E ok (y_assign rfl) rfl rfl fun a E => ?_
    refine l_val E ok (y_assign rfl) rfl rfl fun a E => ?_
    refine wpList_nil ?_
    refine t_norm ?_
    refine wp_ret ?_
    have hret : calqueref07_Operand_R u m0 S (0, 1) a w := ⟨(ok.drop).down hb0 le_m0, E.d, ⟨rv_t E rfl, rv_t E rfl, trivial⟩, (show InR .i64 (0) by decide), (show InR .i64 (1) by decide)⟩
    obtain rfl := Option.some.inj hF
    exact fin _ _ hret
  replace hF := cond_t hc30 hF
  refine wp_seq ?_
  refine c_region ?_
  refine l_val E ok (y_fieldAddr fo_36_2 rfl) rfl rfl fun a E => ?_
  refine l_val E ok (y_load one_9 rfl (Holds.own 0 rfl rfl)) rfl rfl fun a E => ?_
  obtain ⟨r31, e32, hF⟩ := bnd hF
  refine l_call E go_110 rfl (calqueref07_Trim_w N r1.1.Frac l7 e32 hG ok) rfl rfl ?_
  rintro _ w ⟨⟨rfl, ok⟩, l33⟩
  refine ⟨_, rfl, fun a E => ?_⟩
  obtain ⟨r34, e35, hF⟩ := bnd hF
  refine l_call E go_109 rfl (calqueref07_Value_w N r31 l33 e35 hG ok) rfl rfl ?_
  rintro _ w ⟨⟨rfl, ok⟩, r36⟩
  refine ⟨_, rfl, fun a E => ?_⟩
  refine l_val E ok (y_assign rfl) rfl rfl fun a E => ?_
  refine l_val E ok (y_assign rfl) rfl rfl fun a E => ?_
  refine wpList_nil ?_
  refine t_norm ?_
  refine wp_ret ?_
  refine b_ret ?_
  refine t_ret ?_
  have hret : calqueref07_Operand_R u m0 S (r34, 0) a w := ⟨(ok.drop).down hb0 le_m0, E.d, ⟨rv_t E rfl, rv_t E rfl, trivial⟩, r36, (show InR .i64 (0) by decide)⟩
  obtain rfl := Option.some.inj hF
  exact fin _ _ hret

def calqueref08_Inside_R (u : World) (m0 : Mem) (S : Segs) (r : Bool) (a : Act) (w : World) : Prop :=
  Ok u m0 S w ∧ a.defers = [] ∧ RVs Tryz.prog a w [.t 4 (.bool r)]
set_option maxHeartbeats 4000000 in
set_option maxRecDepth 100000 in
theorem calqueref08_Inside_w {u : World} {m0 : Mem} {S : Segs} {w : World} (N : Nat) (vl_0 : Value) (l_0 : List (Span)) (hl_0 : (pL 2 pSpan) m0 [vl_0] l_0) (n_1 : Int) (rn_1 : InR .i64 n_1) {r : Bool} (hF : calqueref08_Inside N l_0 n_1 = some r) (hG : Glob u) (ok : Ok u m0 S w) :
    Calls Tryz.prog 78 [vl_0, Value.int .i64 n_1].toArray w fun e w' => (e = .returned (.bool r) ∧ Ok u m0 S w') := by
  have hb0 := ok.base
  have le_m0 := Mem.le.refl m0
  unfold calqueref08_Inside at hF
  have fin : ∀ a w, calqueref08_Inside_R u m0 S r a w → bodyPost Tryz.prog Tryz.f78 (fun e w' => (e = .returned (.bool r) ∧ Ok u m0 S w')) .ret a w := by
    intro a w h
    obtain ⟨ok, hd, hrv⟩ := h
    exact c_ret2 [.t 4 (.bool r)] hd rfl hrv ⟨rfl, ok⟩
  refine enter Tryz.func78 rfl rfl rfl fun a E => ?_
  refine wp_seq ?_
  refine c_region ?_
  refine l_val E ok (y_assign rfl) rfl rfl fun a E => ?_
  refine wpList_nil ?_
  refine t_norm ?_
  refine wp_seq ?_
  refine wp_seq ?_
  refine c_region ?_
  refine l_val E ok (y_assign rfl) rfl rfl fun a E => ?_
  refine wpList_nil ?_
  refine t_norm ?_
  refine wp_block ?_
  obtain ⟨o2, hL, hF⟩ := bnd hF
  refine c_loop _ (fun (s : Int) a w => Ok u m0 (S) w ∧ Env 28 a [(0, vl_0), (1, (Value.int .i64 n_1)), (5, (Value.int .i64 s))] ∧ InR .i64 s) (fun (b : (Unit ⊕ Bool)) e a w => (Sum.elim (fun b31 => e = (.exit 0) ∧ Ok u m0 (S) w ∧ Env 28 a []) (fun b32 => e = .ret ∧ calqueref08_Inside_R u m0 S b32 a w)) b) ?_ ?_ N _ a w hL ⟨ok, E.keep [0, 1, 5], (show InR .i64 (0) by decide)⟩
  rotate_left
  · intro e a w _ hO
    rcases o2 with o2 | o2
    rotate_left
    · replace hF := elim_r hF
      obtain ⟨rfl, hret⟩ := hO
      refine b_ret ?_
      refine t_ret ?_
      obtain rfl := Option.some.inj hF
      exact fin _ _ hret
    replace hF := elim_l hF
    obtain ⟨rfl, ok, E⟩ := hO
    refine b_hit ?_
    refine t_norm ?_
    refine wp_seq ?_
    refine c_region ?_
    refine l_val E ok (y_assign rfl) rfl rfl fun a E => ?_
    refine wpList_nil ?_
    refine t_norm ?_
    refine wp_ret ?_
    have hret : calqueref08_Inside_R u m0 S false a w := ⟨ok, E.d, ⟨rv_t E rfl, trivial⟩⟩
    obtain rfl := Option.some.inj hF
    exact fin _ _ hret
  rintro i_4 a w r ⟨ok, E, r5⟩ hF
  replace hF : calqueref08_Inside_b1 N l_0 n_1 i_4 = some r := hF
  unfold calqueref08_Inside_b1 at hF
  refine wp_seq ?_
  refine wp_seq ?_
  refine c_region ?_
  refine l_val E ok (y_move rfl) rfl rfl fun a E => ?_
  refine l_val E ok (y_move rfl) rfl rfl fun a E => ?_
  refine l_val E ok (y_lenL sl_50 hl_0 rfl) rfl rfl fun a E => ?_
  refine l_val E ok (y_lss rfl rfl) rfl rfl fun a E => ?_
  refine wpList_nil ?_
  refine t_norm ?_
  refine c_if E rfl (fun hc6 => ?_) (fun hc6 => ?_)
  rotate_left
  · replace hF := cond_f hc6 hF
    refine wp_exit ?_
    refine t_exit ?_
    obtain rfl := Option.some.inj hF
    exact step_o (by nofun) (sl ⟨rfl, ⟨ok, E.keep []⟩⟩)
  replace hF := cond_t hc6 hF
  refine wp_skip ?_
  refine t_norm ?_
  refine wp_seq ?_
  refine wp_block ?_
  refine wp_seq ?_
  refine c_region ?_
  refine l_val E ok (y_move rfl) rfl rfl fun a E => ?_
  refine l_val E ok (y_move rfl) rfl rfl fun a E => ?_
  refine l_val E ok (y_move rfl) rfl rfl fun a E => ?_
  obtain ⟨x7, e8, hF⟩ := bnd hF
  obtain ⟨b9, o10, es11, hl12, rr13, at14, yy15⟩ := idxAt sl_50 hl_0 e8 (P := Tryz.prog) (X := .tmp 13) (I := .tmp 14) (kd := .i64) (ev_of E rfl) (ev_of E rfl)
  obtain ⟨rfl, r16, r17⟩ := rr13
  refine l_val E ok (yy15 _ _) rfl rfl fun a E => ?_
  refine l_val E ok (y_fieldAddr fo_49_0 rfl) rfl rfl fun a E => ?_
  refine l_val E ok (y_load one_3 rfl (Holds.ro (At.sub 0 1 at14))) rfl rfl fun a E => ?_
  refine l_val E ok (y_geq rfl rfl) rfl rfl fun a E => ?_
  refine l_val E ok (y_move rfl) rfl rfl fun a E => ?_
  refine bsplit (decide (n_1 ≥ x7.From)) (fun hc18 => ?_) (fun hc18 => ?_)
  rotate_left
  · replace hF := cond_f hc18 hF
    replace E := E.upd 19 hc18 rfl
    refine l_skip E rfl rfl fun a E => ?_
    refine l_skip E rfl rfl fun a E => ?_
    refine l_skip E rfl rfl fun a E => ?_
    refine l_skip E rfl rfl fun a E => ?_
    refine l_skip E rfl rfl fun a E => ?_
    refine l_skip E rfl rfl fun a E => ?_
    refine l_skip E rfl rfl fun a E => ?_
    refine l_val E ok (y_pickF rfl rfl) rfl rfl fun a E => ?_
    refine wpList_nil ?_
    refine t_norm ?_
    refine c_if E rfl (fun h => by cases h) (fun _ => ?_)
    refine wp_skip ?_
    refine b_norm ?_
    refine t_norm ?_
    refine c_region ?_
    refine l_val E ok (y_move rfl) rfl rfl fun a E => ?_
    refine l_val E ok (y_add rfl rfl (InR.inc r5 (pL_InR hl_0) hc6)) rfl rfl fun a E => ?_
    refine l_val E ok (y_assign rfl) rfl rfl fun a E => ?_
    refine wpList_nil ?_
    obtain rfl := Option.some.inj hF
    exact step_n ⟨ok, E.keep [0, 1, 5], (InR.inc r5 (pL_InR hl_0) hc6)⟩
  replace hF := cond_t hc18 hF
  replace E := E.upd 19 hc18 rfl
  refine l_val E ok (y_move rfl) rfl rfl fun a E => ?_
  refine l_val E ok (y_move rfl) rfl rfl fun a E => ?_
  refine l_val E ok (y_move rfl) rfl rfl fun a E => ?_
  obtain ⟨x19, e20, hF⟩ := bnd hF
  obtain ⟨b21, o22, es23, hl24, rr25, at26, yy27⟩ := idxAt sl_50 hl_0 e20 (P := Tryz.prog) (X := .tmp 21) (I := .tmp 22) (kd := .i64) (ev_of E rfl) (ev_of E rfl)
  obtain ⟨rfl, r28, r29⟩ := rr25
  refine l_val E ok (yy27 _ _) rfl rfl fun a E => ?_
  refine l_val E ok (y_fieldAddr fo_49_1 rfl) rfl rfl fun a E => ?_
  refine l_val E ok (y_load one_3 rfl (Holds.ro (At.sub 1 1 at26))) rfl rfl fun a E => ?_
  refine l_val E ok (y_leq rfl rfl) rfl rfl fun a E => ?_
  refine l_val E ok (y_pickT rfl rfl) rfl rfl fun a E => ?_
  refine wpList_nil ?_
  refine t_norm ?_
  refine c_if E rfl (fun hc30 => ?_) (fun hc30 => ?_)
  rotate_left
  · replace hF := cond_f hc30 hF
    refine wp_skip ?_
    refine b_norm ?_
    refine t_norm ?_
    refine c_region ?_
    refine l_val E ok (y_move rfl) rfl rfl fun a E => ?_
    refine l_val E ok (y_add rfl rfl (InR.inc r5 (pL_InR hl_0) hc6)) rfl rfl fun a E => ?_
    refine l_val E ok (y_assign rfl) rfl rfl fun a E => ?_
    refine wpList_nil ?_
    obtain rfl := Option.some.inj hF
    exact step_n ⟨ok, E.keep [0, 1, 5], (InR.inc r5 (pL_InR hl_0) hc6)⟩
  replace hF := cond_t hc30 hF
  refine wp_seq ?_
  refine c_region ?_
  refine l_val E ok (y_assign rfl) rfl rfl fun a E => ?_
  refine wpList_nil ?_
  refine t_norm ?_
  refine wp_ret ?_
  refine b_ret ?_
  refine t_ret ?_
  have hret : calqueref08_Inside_R u m0 S true a w := ⟨ok, E.d, ⟨rv_t E rfl, trivial⟩⟩
  obtain rfl := Option.some.inj hF
  exact step_o (by nofun) (sr ⟨rfl, hret⟩)

def calqueref08_Relation_R (u : World) (m0 : Mem) (S : Segs) (r : Bool) (a : Act) (w : World) : Prop :=
  Ok u m0 S w ∧ a.defers = [] ∧ RVs Tryz.prog a w [.t 4 (.bool r)]
set_option maxHeartbeats 4000000 in
set_option maxRecDepth 100000 in
theorem calqueref08_Relation_w {u : World} {m0 : Mem} {S : Segs} {w : World} (N : Nat) (vr_0 : List Value) (r_0 : Relation) (hr_0 : pRelation m0 vr_0 r_0) (number_1 : List UInt8) (lnumber_1 : number_1.length ≤ LIMS) {r : Bool} (hF : calqueref08_Relation N r_0 number_1 = some r) (hG : Glob u) (ok : Ok u m0 S w) :
    Calls Tryz.prog 54 [.agg vr_0.toArray, Value.string (bs number_1)].toArray w fun e w' => (e = .returned (.bool r) ∧ Ok u m0 S w') := by
  obtain ⟨c3, rfl, r1, r2, h4⟩ := hr_0
  have hb0 := ok.base
  have le_m0 := Mem.le.refl m0
  unfold calqueref08_Relation at hF
  have fin : ∀ a w, calqueref08_Relation_R u m0 S r a w → bodyPost Tryz.prog Tryz.f54 (fun e w' => (e = .returned (.bool r) ∧ Ok u m0 S w')) .ret a w := by
    intro a w h
    obtain ⟨ok, hd, hrv⟩ := h
    exact c_ret2 [.t 4 (.bool r)] hd rfl hrv ⟨rfl, ok⟩
  refine enter Tryz.func54 rfl rfl rfl fun a E => ?_
  refine wp_seq ?_
  refine c_region ?_
  refine l_box E ok rfl rfl rfl fun b5 a w E ok => ?_
  refine l_val E ok (y_assign rfl) rfl rfl fun a E => ?_
  refine wpList_nil ?_
  refine t_norm ?_
  refine wp_seq ?_
  refine c_region ?_
  refine l_val E ok (y_move rfl) rfl rfl fun a E => ?_
  refine l_val E ok (y_fieldAddr fo_52_0 rfl) rfl rfl fun a E => ?_
  refine l_val E ok (y_load one_3 rfl (Holds.own 0 rfl rfl)) rfl rfl fun a E => ?_
  obtain ⟨r6, e7, hF⟩ := bnd hF
  refine l_call E go_77 rfl (calqueref07_Operand_w N number_1 lnumber_1 r_0.Operand r1 e7 hG ok) rfl rfl ?_
  rintro _ w ⟨⟨rfl, ok⟩, r8, r9⟩
  refine ⟨_, rfl, fun a E => ?_⟩
  refine l_val E ok (y_move rfl) rfl rfl fun a E => ?_
  refine l_val E ok (y_extract rfl rfl) rfl rfl fun a E => ?_
  refine l_val E ok (y_extract rfl rfl) rfl rfl fun a E => ?_
  refine l_val E ok (y_assign rfl) rfl rfl fun a E => ?_
  refine l_val E ok (y_assign rfl) rfl rfl fun a E => ?_
  refine wpList_nil ?_
  refine t_norm ?_
  refine wp_seq ?_
  refine wp_seq ?_
  refine c_region ?_
  refine l_val E ok (y_move rfl) rfl rfl fun a E => ?_
  refine l_val E ok (y_neq rfl rfl) rfl rfl fun a E => ?_
  refine wpList_nil ?_
  refine t_norm ?_
  refine c_if E rfl (fun hc10 => ?_) (fun hc10 => ?_)
  · replace hF := cond_t hc10 hF
    refine wp_seq ?_
    refine c_region ?_
    refine l_val E ok (y_fieldAddr fo_52_2 rfl) rfl rfl fun a E => ?_
    refine l_val E ok (y_load one_4 rfl (Holds.own 0 rfl rfl)) rfl rfl fun a E => ?_
    refine l_val E ok (y_assign rfl) rfl rfl fun a E => ?_
    refine wpList_nil ?_
    refine t_norm ?_
    refine wp_ret ?_
    refine t_ret ?_
    have hret : calqueref08_Relation_R u m0 S r_0.Not a w := ⟨ok.drop, E.d, ⟨rv_t E rfl, trivial⟩⟩
    obtain rfl := Option.some.inj hF
    exact fin _ _ hret
  replace hF := cond_f hc10 hF
  refine wp_skip ?_
  refine t_norm ?_
  refine wp_seq ?_
  refine wp_seq ?_
  refine c_region ?_
  refine l_val E ok (y_fieldAddr fo_52_1 rfl) rfl rfl fun a E => ?_
  refine l_val E ok (y_load one_3 rfl (Holds.own 0 rfl rfl)) rfl rfl fun a E => ?_
  refine l_val E ok (y_neq rfl rfl) rfl rfl fun a E => ?_
  refine wpList_nil ?_
  refine t_norm ?_
  obtain ⟨o11, hJ, hF⟩ := bnd hF
  refine c_mono (Q' := fun e a w => e = .normal ∧ Ok u m0 ([(b5, Obj.cells [(Value.int .i64 r_0.Operand), (Value.int .i64 r_0.Mod), (Value.bool r_0.Not), c3].toArray 52 (0, 0))] :: S) w ∧ Env 32 a [(2, (Value.pointer (some ⟨b5, 0, none⟩))), (5, (Value.int .i64 o11))] ∧ InR .i64 o11) ?_ ?_
  · replace hF := hJ
    clear hJ
    refine c_if E rfl (fun hc13 => ?_) (fun hc13 => ?_)
    rotate_left
    · replace hF := cond_f hc13 hF
      refine wp_skip ?_
      obtain rfl := Option.some.inj hF
      exact ⟨rfl, ⟨ok, E.keep [2, 5], r8⟩⟩
    replace hF := cond_t hc13 hF
    refine c_region ?_
    refine l_val E ok (y_move rfl) rfl rfl fun a E => ?_
    refine l_val E ok (y_fieldAddr fo_52_1 rfl) rfl rfl fun a E => ?_
    refine l_val E ok (y_load one_3 rfl (Holds.own 0 rfl rfl)) rfl rfl fun a E => ?_
    obtain ⟨q14, e15, hF⟩ := bnd hF
    refine l_val E ok (y_rm rfl rfl e15) rfl rfl fun a E => ?_
    refine l_val E ok (y_assign rfl) rfl rfl fun a E => ?_
    refine wpList_nil ?_
    obtain rfl := Option.some.inj hF
    exact ⟨rfl, ⟨ok, E.keep [2, 5], (rm_InR e15 r8)⟩⟩
  clear hJ
  intro e a w hO
  obtain ⟨rfl, ok, E, r16⟩ := hO
  refine t_norm ?_
  refine wp_seq ?_
  refine c_draw (by kernel_rfl) (by kernel_rfl) ok ?_
  refine q_val E (y_fieldAddr fo_52_3 rfl) rfl rfl fun a E => ?_
  refine q_val E (y_load one_50 rfl (Holds.own 0 rfl rfl)) rfl rfl fun a E => ?_
  refine q_val E (y_move rfl) rfl rfl fun a E => ?_
  obtain ⟨r17, e18, hF⟩ := bnd hF
  refine q_call E go_78 rfl (fun w ok => (calqueref08_Inside_w N _ r_0.Spans h4 o11 r16 e18 hG ok).mono (fun _ _ h => h)) rfl rfl fun a E => ?_
  refine q_val E (y_fieldAddr fo_52_2 rfl) rfl rfl fun a E => ?_
  refine q_val E (y_load one_4 rfl (Holds.own 0 rfl rfl)) rfl rfl fun a E => ?_
  refine q_val E (y_bneq Tryz.underlying4 rfl rfl) rfl rfl fun a E => ?_
  refine q_val E (y_assign rfl) rfl rfl fun a E => ?_
  refine wpQuiet_nil ?_
  intro w ok
  refine t_norm ?_
  refine wp_ret ?_
  have hret : calqueref08_Relation_R u m0 S (r17 != r_0.Not) a w := ⟨ok.drop, E.d, ⟨rv_t E rfl, trivial⟩⟩
  obtain rfl := Option.some.inj hF
  exact fin _ _ hret

def calqueref08_Holds_R (u : World) (m0 : Mem) (S : Segs) (r : Bool × Int) (a : Act) (w : World) : Prop :=
  Ok u m0 S w ∧ a.defers = [] ∧ RVs Tryz.prog a w [.t 4 (.bool r.1), .t 5 (.int .i64 r.2)] ∧ InR .i64 r.2
set_option maxHeartbeats 4000000 in
set_option maxRecDepth 100000 in
theorem calqueref08_Holds_w {u : World} {m0 : Mem} {S : Segs} {w : World} (N : Nat) (vc_0 : Value) (c_0 : List (List (Relation))) (hc_0 : (pL 1 (pL 4 pRelation)) m0 [vc_0] c_0) (number_1 : List UInt8) (lnumber_1 : number_1.length ≤ LIMS) {r : Bool × Int} (hF : calqueref08_Holds N c_0 number_1 = some r) (hG : Glob u) (ok : Ok u m0 S w) :
    Calls Tryz.prog 28 [vc_0, Value.string (bs number_1)].toArray w fun e w' => (e = .returned (.tuple [(.bool r.1), (.int .i64 r.2)].toArray) ∧ Ok u m0 S w') ∧ InR .i64 r.2 := by
  have hb0 := ok.base
  have le_m0 := Mem.le.refl m0
  unfold calqueref08_Holds at hF
  have fin : ∀ a w, calqueref08_Holds_R u m0 S r a w → bodyPost Tryz.prog Tryz.f28 (fun e w' => (e = .returned (.tuple [(.bool r.1), (.int .i64 r.2)].toArray) ∧ Ok u m0 S w') ∧ InR .i64 r.2) .ret a w := by
    intro a w h
    obtain ⟨ok, hd, hrv, h0⟩ := h
    exact c_ret2 [.t 4 (.bool r.1), .t 5 (.int .i64 r.2)] hd rfl hrv ⟨⟨rfl, ok⟩, h0⟩
  refine enter Tryz.func28 rfl rfl rfl fun a E => ?_
  refine wp_seq ?_
  refine c_region ?_
  refine l_val E ok (y_assign rfl) rfl rfl fun a E => ?_
  refine l_val E ok (y_assign rfl) rfl rfl fun a E => ?_
  refine wpList_nil ?_
  refine t_norm ?_
  refine wp_seq ?_
  refine wp_seq ?_
  refine c_region ?_
  refine l_val E ok (y_move rfl) rfl rfl fun a E => ?_
  obtain ⟨r1, e2, hF⟩ := bnd hF
  refine l_call E go_35 rfl (calqueref08_Valid_w N _ c_0 hc_0 e2 hG ok) rfl rfl ?_
  rintro _ w ⟨rfl, ok⟩
  refine ⟨_, rfl, fun a E => ?_⟩
  refine l_val E ok (y_not rfl) rfl rfl fun a E => ?_
  refine l_val E ok (y_move rfl) rfl rfl fun a E => ?_
  refine bsplit (!r1) (fun hc3 => ?_) (fun hc3 => ?_)
  · replace hF := cond_t hc3 hF
    replace E := E.upd 12 hc3 rfl
    refine l_skip E rfl rfl fun a E => ?_
    refine l_skip E rfl rfl fun a E => ?_
    refine l_skip E rfl rfl fun a E => ?_
    refine l_val E ok (y_pickT rfl rfl) rfl rfl fun a E => ?_
    refine wpList_nil ?_
    refine t_norm ?_
    refine c_if E rfl (fun _ => ?_) (fun h => by cases h)
    refine wp_seq ?_
    refine c_region ?_
    refine l_val E ok (y_assign rfl) rfl rfl fun a E => ?_
    refine l_val E ok (y_assign rfl) rfl rfl fun a E => ?_
    refine wpList_nil ?_
    refine t_norm ?_
    refine wp_ret ?_
    refine t_ret ?_
    have hret : calqueref08_Holds_R u m0 S (false, 1) a w := ⟨ok, E.d, ⟨rv_t E rfl, rv_t E rfl, trivial⟩, (show InR .i64 (1) by decide)⟩
    obtain rfl := Option.some.inj hF
    exact fin _ _ hret
  replace hF := cond_f hc3 hF
  replace E := E.upd 12 hc3 rfl
  refine l_val E ok (y_move rfl) rfl rfl fun a E => ?_
  obtain ⟨r4, e5, hF⟩ := bnd hF
  refine l_call E go_24 rfl (calqueref07_Valid_w N number_1 lnumber_1 e5 hG ok) rfl rfl ?_
  rintro _ w ⟨rfl, ok⟩
  refine ⟨_, rfl, fun a E => ?_⟩
  refine l_val E ok (y_not rfl) rfl rfl fun a E => ?_
  refine l_val E ok (y_pickF rfl rfl) rfl rfl fun a E => ?_
  refine wpList_nil ?_
  refine t_norm ?_
  refine c_if E rfl (fun hc6 => ?_) (fun hc6 => ?_)
  · replace hF := cond_t hc6 hF
    refine wp_seq ?_
    refine c_region ?_
    refine l_val E ok (y_assign rfl) rfl rfl fun a E => ?_
    refine l_val E ok (y_assign rfl) rfl rfl fun a E => ?_
    refine wpList_nil ?_
    refine t_norm ?_
    refine wp_ret ?_
    refine t_ret ?_
    have hret : calqueref08_Holds_R u m0 S (false, 1) a w := ⟨ok, E.d, ⟨rv_t E rfl, rv_t E rfl, trivial⟩, (show InR .i64 (1) by decide)⟩
    obtain rfl := Option.some.inj hF
    exact fin _ _ hret
  replace hF := cond_f hc6 hF
  refine wp_skip ?_
  refine t_norm ?_
  refine wp_seq ?_
  refine wp_seq ?_
  refine c_region ?_
  refine l_val E ok (y_assign rfl) rfl rfl fun a E => ?_
  refine wpList_nil ?_
  refine t_norm ?_
  refine wp_block ?_
  obtain ⟨o8, hL, hF⟩ := bnd hF
  refine c_loop _ (fun (s : Int) a w => Ok u m0 (S) w ∧ Env 45 a [(0, vc_0), (1, (Value.string (bs number_1))), (6, (Value.int .i64 s))] ∧ InR .i64 s) (fun (b : (Unit ⊕ (Bool × Int))) e a w => (Sum.elim (fun b59 => e = (.exit 0) ∧ Ok u m0 (S) w ∧ Env 45 a []) (fun b60 => e = .ret ∧ calqueref08_Holds_R u m0 S b60 a w)) b) ?_ ?_ N _ a w hL ⟨ok, E.keep [0, 1, 6], (show InR .i64 (0) by decide)⟩
  rotate_left
  · intro e a w _ hO
    rcases o8 with o8 | o8
    rotate_left
    · replace hF := elim_r hF
      obtain ⟨rfl, hret⟩ := hO
      refine b_ret ?_
      refine t_ret ?_
      obtain rfl := Option.some.inj hF
      exact fin _ _ hret
    replace hF := elim_l hF
    obtain ⟨rfl, ok, E⟩ := hO
    refine b_hit ?_
    refine t_norm ?_
    refine wp_seq ?_
    refine c_region ?_
    refine l_val E ok (y_assign rfl) rfl rfl fun a E => ?_
    refine l_val E ok (y_assign rfl) rfl rfl fun a E => ?_
    refine wpList_nil ?_
    refine t_norm ?_
    refine wp_ret ?_
    have hret : calqueref08_Holds_R u m0 S (false, 0) a w := ⟨ok, E.d, ⟨rv_t E rfl, rv_t E rfl, trivial⟩, (show InR .i64 (0) by decide)⟩
    obtain rfl := Option.some.inj hF
    exact fin _ _ hret
  rintro i_10 a w r ⟨ok, E, r11⟩ hF
  replace hF : calqueref08_Holds_b1 N c_0 number_1 i_10 = some r := hF
  unfold calqueref08_Holds_b1 at hF
  refine wp_seq ?_
  refine wp_seq ?_
  refine c_region ?_
  refine l_val E ok (y_move rfl) rfl rfl fun a E => ?_
  refine l_val E ok (y_move rfl) rfl rfl fun a E => ?_
  refine l_val E ok (y_lenL sl_42 hc_0 rfl) rfl rfl fun a E => ?_
  refine l_val E ok (y_lss rfl rfl) rfl rfl fun a E => ?_
  refine wpList_nil ?_
  refine t_norm ?_
  refine c_if E rfl (fun hc12 => ?_) (fun hc12 => ?_)
  rotate_left
  · replace hF := cond_f hc12 hF
    refine wp_exit ?_
    refine t_exit ?_
    obtain rfl := Option.some.inj hF
    exact step_o (by nofun) (sl ⟨rfl, ⟨ok, E.keep []⟩⟩)
  replace hF := cond_t hc12 hF
  refine wp_skip ?_
  refine t_norm ?_
  refine wp_seq ?_
  refine wp_block ?_
  refine wp_seq ?_
  refine c_region ?_
  refine l_val E ok (y_assign rfl) rfl rfl fun a E => ?_
  refine wpList_nil ?_
  refine t_norm ?_
  refine wp_seq ?_
  refine wp_seq ?_
  refine c_region ?_
  refine l_val E ok (y_assign rfl) rfl rfl fun a E => ?_
  refine wpList_nil ?_
  refine t_norm ?_
  refine wp_block ?_
  obtain ⟨o14, hL, hF⟩ := bnd hF
  refine c_loop _ (fun (s : Bool × Int) a w => Ok u m0 (S) w ∧ Env 45 a [(0, vc_0), (1, (Value.string (bs number_1))), (6, (Value.int .i64 i_10)), (7, (Value.bool s.1)), (8, (Value.int .i64 s.2))] ∧ InR .i64 s.2) (fun (b : Bool) e a w => e = (.exit 2) ∧ Ok u m0 (S) w ∧ Env 45 a [(0, vc_0), (1, (Value.string (bs number_1))), (6, (Value.int .i64 i_10)), (7, (Value.bool b))]) ?_ ?_ N _ a w hL ⟨ok, E.keep [0, 1, 6, 7, 8], (show InR .i64 (0) by decide)⟩
  rotate_left
  · intro e a w _ hO
    obtain ⟨rfl, ok, E⟩ := hO
    refine b_hit ?_
    refine t_norm ?_
    refine wp_seq ?_
    refine c_region ?_
    refine l_val E ok (y_move rfl) rfl rfl fun a E => ?_
    refine wpList_nil ?_
    refine t_norm ?_
    refine c_if E rfl (fun hc58 => ?_) (fun hc58 => ?_)
    rotate_left
    · replace hF := cond_f hc58 hF
      refine wp_skip ?_
      refine b_norm ?_
      refine t_norm ?_
      refine c_region ?_
      refine l_val E ok (y_move rfl) rfl rfl fun a E => ?_
      refine l_val E ok (y_add rfl rfl (InR.inc r11 (pL_InR hc_0) hc12)) rfl rfl fun a E => ?_
      refine l_val E ok (y_assign rfl) rfl rfl fun a E => ?_
      refine wpList_nil ?_
      obtain rfl := Option.some.inj hF
      exact step_n ⟨ok, E.keep [0, 1, 6], (InR.inc r11 (pL_InR hc_0) hc12)⟩
    replace hF := cond_t hc58 hF
    refine wp_seq ?_
    refine c_region ?_
    refine l_val E ok (y_assign rfl) rfl rfl fun a E => ?_
    refine l_val E ok (y_assign rfl) rfl rfl fun a E => ?_
    refine wpList_nil ?_
    refine t_norm ?_
    refine wp_ret ?_
    refine b_ret ?_
    refine t_ret ?_
    have hret : calqueref08_Holds_R u m0 S (true, 0) a w := ⟨ok, E.d, ⟨rv_t E rfl, rv_t E rfl, trivial⟩, (show InR .i64 (0) by decide)⟩
    obtain rfl := Option.some.inj hF
    exact step_o (by nofun) (sr ⟨rfl, hret⟩)
  rintro ⟨all_16, k_17⟩ a w r ⟨ok, E, r18⟩ hF
  replace hF : calqueref08_Holds_b2 N c_0 number_1 i_10 all_16 k_17 = some r := hF
  unfold calqueref08_Holds_b2 at hF
  refine wp_seq ?_
  refine wp_seq ?_
  refine c_region ?_
  refine l_val E ok (y_move rfl) rfl rfl fun a E => ?_
  refine l_val E ok (y_move rfl) rfl rfl fun a E => ?_
  refine l_val E ok (y_move rfl) rfl rfl fun a E => ?_
  obtain ⟨x19, e20, hF⟩ := bnd hF
  obtain ⟨b21, o22, es23, hl24, rr25, at26, yy27⟩ := idxAt sl_42 hc_0 e20 (P := Tryz.prog) (X := .tmp 24) (I := .tmp 25) (kd := .i64) (ev_of E rfl) (ev_of E rfl)
  obtain ⟨c28, rfl, h29⟩ := pL_cell rr25
  refine l_val E ok (yy27 _ _) rfl rfl fun a E => ?_
  refine l_val E ok (y_load one_53 rfl (Holds.ro at26)) rfl rfl fun a E => ?_
  refine l_val E ok (y_lenL sl_53 h29 rfl) rfl rfl fun a E => ?_
  refine l_val E ok (y_lss rfl rfl) rfl rfl fun a E => ?_
  refine wpList_nil ?_
  refine t_norm ?_
  refine c_if E rfl (fun hc30 => ?_) (fun hc30 => ?_)
  rotate_left
  · replace hF := cond_f hc30 hF
    refine wp_exit ?_
    refine t_exit ?_
    obtain rfl := Option.some.inj hF
    exact step_o (by nofun) (⟨rfl, ⟨ok, E.keep [0, 1, 6, 7]⟩⟩)
  replace hF := cond_t hc30 hF
  refine wp_skip ?_
  refine t_norm ?_
  refine wp_seq ?_
  refine wp_block ?_
  refine c_region ?_
  refine l_val E ok (y_move rfl) rfl rfl fun a E => ?_
  refine l_val E ok (y_move rfl) rfl rfl fun a E => ?_
  refine bsplit all_16 (fun hc31 => ?_) (fun hc31 => ?_)
  rotate_left
  · replace hF := cond_f hc31 hF
    replace E := E.upd 33 hc31 rfl
    refine l_skip E rfl rfl fun a E => ?_
    refine l_skip E rfl rfl fun a E => ?_
    refine l_skip E rfl rfl fun a E => ?_
    refine l_skip E rfl rfl fun a E => ?_
    refine l_skip E rfl rfl fun a E => ?_
    refine l_skip E rfl rfl fun a E => ?_
    refine l_skip E rfl rfl fun a E => ?_
    refine l_skip E rfl rfl fun a E => ?_
    refine l_skip E rfl rfl fun a E => ?_
    refine l_val E ok (y_pickF rfl rfl) rfl rfl fun a E => ?_
    refine l_val E ok (y_assign rfl) rfl rfl fun a E => ?_
    refine wpList_nil ?_
    refine b_norm ?_
    refine t_norm ?_
    refine c_region ?_
    refine l_val E ok (y_move rfl) rfl rfl fun a E => ?_
    refine l_val E ok (y_add rfl rfl (InR.inc r18 (pL_InR h29) hc30)) rfl rfl fun a E => ?_
    refine l_val E ok (y_assign rfl) rfl rfl fun a E => ?_
    refine wpList_nil ?_
    obtain rfl := Option.some.inj hF
    exact step_n ⟨ok, E.keep [0, 1, 6, 7, 8], (InR.inc r18 (pL_InR h29) hc30)⟩
  replace hF := cond_t hc31 hF
  replace E := E.upd 33 hc31 rfl
  refine l_val E ok (y_move rfl) rfl rfl fun a E => ?_
  refine l_val E ok (y_move rfl) rfl rfl fun a E => ?_
  obtain ⟨x32, e33, hF⟩ := bnd hF
  obtain ⟨b34, o35, es36, hl37, rr38, at39, yy40⟩ := idxAt sl_42 hc_0 e33 (P := Tryz.prog) (X := .tmp 34) (I := .tmp 35) (kd := .i64) (ev_of E rfl) (ev_of E rfl)
  obtain ⟨c41, rfl, h42⟩ := pL_cell rr38
  refine l_val E ok (yy40 _ _) rfl rfl fun a E => ?_
  refine l_val E ok (y_load one_53 rfl (Holds.ro at39)) rfl rfl fun a E => ?_
  refine l_val E ok (y_move rfl) rfl rfl fun a E => ?_
  obtain ⟨x43, e44, hF⟩ := bnd hF
  obtain ⟨b45, o46, es47, hl48, rr49, at50, yy51⟩ := idxAt sl_53 h42 e44 (P := Tryz.prog) (X := .tmp 37) (I := .tmp 38) (kd := .i64) (ev_of E rfl) (ev_of E rfl)
  obtain ⟨c54, rfl, r52, r53, h55⟩ := rr49
  refine l_val E ok (yy51 _ _) rfl rfl fun a E => ?_
  refine l_val E ok (y_loadAgg (cs := [(Value.int .i64 x43.Operand), (Value.int .i64 x43.Mod), (Value.bool x43.Not), c54]) agg_52 rfl rfl (Holds.ro at50)) rfl rfl fun a E => ?_
  refine l_val E ok (y_move rfl) rfl rfl fun a E => ?_
  obtain ⟨r56, e57, hF⟩ := bnd hF
  refine l_call E go_54 rfl (calqueref08_Relation_w N _ x43 ⟨_, rfl, r52, r53, h55⟩ number_1 lnumber_1 e57 hG ok) rfl rfl ?_
  rintro _ w ⟨rfl, ok⟩
  refine ⟨_, rfl, fun a E => ?_⟩
  refine l_val E ok (y_pickT rfl rfl) rfl rfl fun a E => ?_
  refine l_val E ok (y_assign rfl) rfl rfl fun a E => ?_
  refine wpList_nil ?_
  refine b_norm ?_
  refine t_norm ?_
  refine c_region ?_
  refine l_val E ok (y_move rfl) rfl rfl fun a E => ?_
  refine l_val E ok (y_add rfl rfl (InR.inc r18 (pL_InR h29) hc30)) rfl rfl fun a E => ?_
  refine l_val E ok (y_assign rfl) rfl rfl fun a E => ?_
  refine wpList_nil ?_
  obtain rfl := Option.some.inj hF
  exact step_n ⟨ok, E.keep [0, 1, 6, 7, 8], (InR.inc r18 (pL_InR h29) hc30)⟩

def calqueref14_Class_R (u : World) (m0 : Mem) (S : Segs) (r : (List UInt8) × Int) (a : Act) (w : World) : Prop :=
  Ok u m0 S w ∧ a.defers = [] ∧ RVs Tryz.prog a w [.t 4 (.string (bs r.1)), .t 5 (.int .i64 r.2)] ∧ r.1.length ≤ LIMS ∧ InR .i64 r.2
set_option maxHeartbeats 4000000 in
set_option maxRecDepth 100000 in
theorem calqueref14_Class_w {u : World} {m0 : Mem} {S : Segs} {w : World} (N : Nat) (vl_0 : Value) (l_0 : List (Rule)) (hl_0 : (pL 2 pRule) m0 [vl_0] l_0) (number_1 : List UInt8) (lnumber_1 : number_1.length ≤ LIMS) {r : (List UInt8) × Int} (hF : calqueref14_Class N l_0 number_1 = some r) (hG : Glob u) (ok : Ok u m0 S w) :
    Calls Tryz.prog 12 [vl_0, Value.string (bs number_1)].toArray w fun e w' => (e = .returned (.tuple [(.string (bs r.1)), (.int .i64 r.2)].toArray) ∧ Ok u m0 S w') ∧ r.1.length ≤ LIMS ∧ InR .i64 r.2 := by
  have hb0 := ok.base
  have le_m0 := Mem.le.refl m0
  unfold calqueref14_Class at hF
  have fin : ∀ a w, calqueref14_Class_R u m0 S r a w → bodyPost Tryz.prog Tryz.f12 (fun e w' => (e = .returned (.tuple [(.string (bs r.1)), (.int .i64 r.2)].toArray) ∧ Ok u m0 S w') ∧ r.1.length ≤ LIMS ∧ InR .i64 r.2) .ret a w := by
    intro a w h
    obtain ⟨ok, hd, hrv, h0, h1⟩ := h
    exact c_ret2 [.t 4 (.string (bs r.1)), .t 5 (.int .i64 r.2)] hd rfl hrv ⟨⟨rfl, ok⟩, h0, h1⟩
  refine enter Tryz.func12 rfl rfl rfl fun a E => ?_
  refine wp_seq ?_
  refine c_region ?_
  refine l_val E ok (y_assign rfl) rfl rfl fun a E => ?_
  refine l_val E ok (y_assign rfl) rfl rfl fun a E => ?_
  refine wpList_nil ?_
  refine t_norm ?_
  refine wp_seq ?_
  refine wp_seq ?_
  refine c_region ?_
  refine l_val E ok (y_move rfl) rfl rfl fun a E => ?_
  obtain ⟨r1, e2, hF⟩ := bnd hF
  refine l_call E go_14 rfl (calqueref14_Valid_w N _ l_0 hl_0 e2 hG ok) rfl rfl ?_
  rintro _ w ⟨rfl, ok⟩
  refine ⟨_, rfl, fun a E => ?_⟩
  refine l_val E ok (y_not rfl) rfl rfl fun a E => ?_
  refine l_val E ok (y_move rfl) rfl rfl fun a E => ?_
  refine bsplit (!r1) (fun hc3 => ?_) (fun hc3 => ?_)
  · replace hF := cond_t hc3 hF
    replace E := E.upd 12 hc3 rfl
    refine l_skip E rfl rfl fun a E => ?_
    refine l_skip E rfl rfl fun a E => ?_
    refine l_skip E rfl rfl fun a E => ?_
    refine l_val E ok (y_pickT rfl rfl) rfl rfl fun a E => ?_
    refine wpList_nil ?_
    refine t_norm ?_
    refine c_if E rfl (fun _ => ?_) (fun h => by cases h)
    refine wp_seq ?_
    refine c_region ?_
    refine l_val E ok (y_assign rfl) rfl rfl fun a E => ?_
    refine l_val E ok (y_assign rfl) rfl rfl fun a E => ?_
    refine wpList_nil ?_
    refine t_norm ?_
    refine wp_ret ?_
    refine t_ret ?_
    have hret : calqueref14_Class_R u m0 S ([], 1) a w := ⟨ok, E.d, ⟨rv_t E rfl, rv_t E rfl, trivial⟩, (show ([] : List UInt8).length ≤ LIMS by decide), (show InR .i64 (1) by decide)⟩
    obtain rfl := Option.some.inj hF
    exact fin _ _ hret
  replace hF := cond_f hc3 hF
  replace E := E.upd 12 hc3 rfl
  refine l_val E ok (y_move rfl) rfl rfl fun a E => ?_
  obtain ⟨r4, e5, hF⟩ := bnd hF
  refine l_call E go_24 rfl (calqueref07_Valid_w N number_1 lnumber_1 e5 hG ok) rfl rfl ?_
  rintro _ w ⟨rfl, ok⟩
  refine ⟨_, rfl, fun a E => ?_⟩
  refine l_val E ok (y_not rfl) rfl rfl fun a E => ?_
  refine l_val E ok (y_pickF rfl rfl) rfl rfl fun a E => ?_
  refine wpList_nil ?_
  refine t_norm ?_
  refine c_if E rfl (fun hc6 => ?_) (fun hc6 => ?_)
  · replace hF := cond_t hc6 hF
    refine wp_seq ?_
    refine c_region ?_
    refine l_val E ok (y_assign rfl) rfl rfl fun a E => ?_
    refine l_val E ok (y_assign rfl) rfl rfl fun a E => ?_
    refine wpList_nil ?_
    refine t_norm ?_
    refine wp_ret ?_
    refine t_ret ?_
    have hret : calqueref14_Class_R u m0 S ([], 1) a w := ⟨ok, E.d, ⟨rv_t E rfl, rv_t E rfl, trivial⟩, (show ([] : List UInt8).length ≤ LIMS by decide), (show InR .i64 (1) by decide)⟩
    obtain rfl := Option.some.inj hF
    exact fin _ _ hret
  replace hF := cond_f hc6 hF
  refine wp_skip ?_
  refine t_norm ?_
  refine wp_seq ?_
  refine wp_seq ?_
  refine c_region ?_
  refine l_val E ok (y_assign rfl) rfl rfl fun a E => ?_
  refine wpList_nil ?_
  refine t_norm ?_
  refine wp_block ?_
  obtain ⟨o8, hL, hF⟩ := bnd hF
  refine c_loop _ (fun (s : Int) a w => Ok u m0 (S) w ∧ Env 39 a [(0, vl_0), (1, (Value.string (bs number_1))), (6, (Value.int .i64 s))] ∧ InR .i64 s) (fun (b : (Unit ⊕ ((List UInt8) × Int))) e a w => (Sum.elim (fun b41 => e = (.exit 0) ∧ Ok u m0 (S) w ∧ Env 39 a []) (fun b42 => e = .ret ∧ calqueref14_Class_R u m0 S b42 a w)) b) ?_ ?_ N _ a w hL ⟨ok, E.keep [0, 1, 6], (show InR .i64 (0) by decide)⟩
  rotate_left
  · intro e a w _ hO
    rcases o8 with o8 | o8
    rotate_left
    · replace hF := elim_r hF
      obtain ⟨rfl, hret⟩ := hO
      refine b_ret ?_
      refine t_ret ?_
      obtain rfl := Option.some.inj hF
      exact fin _ _ hret
    replace hF := elim_l hF
    obtain ⟨rfl, ok, E⟩ := hO
    refine b_hit ?_
    refine t_norm ?_
    refine wp_seq ?_
    refine c_region ?_
    refine l_val E ok (y_assign rfl) rfl rfl fun a E => ?_
    refine l_val E ok (y_assign rfl) rfl rfl fun a E => ?_
    refine wpList_nil ?_
    refine t_norm ?_
    refine wp_ret ?_
    have hret : calqueref14_Class_R u m0 S ([111, 116, 104, 101, 114], 0) a w := ⟨ok, E.d, ⟨rv_t E rfl, rv_t E rfl, trivial⟩, (show ([111, 116, 104, 101, 114] : List UInt8).length ≤ LIMS by decide), (show InR .i64 (0) by decide)⟩
    obtain rfl := Option.some.inj hF
    exact fin _ _ hret
  rintro i_10 a w r ⟨ok, E, r11⟩ hF
  replace hF : calqueref14_Class_b1 N l_0 number_1 i_10 = some r := hF
  unfold calqueref14_Class_b1 at hF
  refine wp_seq ?_
  refine wp_seq ?_
  refine c_region ?_
  refine l_val E ok (y_move rfl) rfl rfl fun a E => ?_
  refine l_val E ok (y_move rfl) rfl rfl fun a E => ?_
  refine l_val E ok (y_lenL sl_22 hl_0 rfl) rfl rfl fun a E => ?_
  refine l_val E ok (y_lss rfl rfl) rfl rfl fun a E => ?_
  refine wpList_nil ?_
  refine t_norm ?_
  refine c_if E rfl (fun hc12 => ?_) (fun hc12 => ?_)
  rotate_left
  · replace hF := cond_f hc12 hF
    refine wp_exit ?_
    refine t_exit ?_
    obtain rfl := Option.some.inj hF
    exact step_o (by nofun) (sl ⟨rfl, ⟨ok, E.keep []⟩⟩)
  replace hF := cond_t hc12 hF
  refine wp_skip ?_
  refine t_norm ?_
  refine wp_seq ?_
  refine wp_block ?_
  refine wp_seq ?_
  refine c_region ?_
  refine l_val E ok (y_move rfl) rfl rfl fun a E => ?_
  refine l_val E ok (y_move rfl) rfl rfl fun a E => ?_
  obtain ⟨x13, e14, hF⟩ := bnd hF
  obtain ⟨b15, o16, es17, hl18, rr19, at20, yy21⟩ := idxAt sl_22 hl_0 e14 (P := Tryz.prog) (X := .tmp 24) (I := .tmp 25) (kd := .i64) (ev_of E rfl) (ev_of E rfl)
  obtain ⟨c23, rfl, l22, h24⟩ := rr19
  refine l_val E ok (yy21 _ _) rfl rfl fun a E => ?_
  refine l_val E ok (y_fieldAddr fo_44_1 rfl) rfl rfl fun a E => ?_
  refine l_val E ok (y_load one_42 rfl (Holds.ro (At.sub 1 1 at20))) rfl rfl fun a E => ?_
  refine l_val E ok (y_move rfl) rfl rfl fun a E => ?_
  obtain ⟨r25, e26, hF⟩ := bnd hF
  refine l_call E go_28 rfl (calqueref08_Holds_w N _ x13.Cond h24 number_1 lnumber_1 e26 hG ok) rfl rfl ?_
  rintro _ w ⟨⟨rfl, ok⟩, r27⟩
  refine ⟨_, rfl, fun a E => ?_⟩
  refine l_val E ok (y_move rfl) rfl rfl fun a E => ?_
  refine l_val E ok (y_extract rfl rfl) rfl rfl fun a E => ?_
  refine l_val E ok (y_extract rfl rfl) rfl rfl fun a E => ?_
  refine l_val E ok (y_assign rfl) rfl rfl fun a E => ?_
  refine l_val E ok (y_assign rfl) rfl rfl fun a E => ?_
  refine wpList_nil ?_
  refine t_norm ?_
  refine wp_seq ?_
  refine c_region ?_
  refine l_val E ok (y_move rfl) rfl rfl fun a E => ?_
  refine wpList_nil ?_
  refine t_norm ?_
  refine c_if E rfl (fun hc28 => ?_) (fun hc28 => ?_)
  rotate_left
  · replace hF := cond_f hc28 hF
    refine wp_skip ?_
    refine b_norm ?_
    refine t_norm ?_
    refine c_region ?_
    refine l_val E ok (y_move rfl) rfl rfl fun a E => ?_
    refine l_val E ok (y_add rfl rfl (InR.inc r11 (pL_InR hl_0) hc12)) rfl rfl fun a E => ?_
    refine l_val E ok (y_assign rfl) rfl rfl fun a E => ?_
    refine wpList_nil ?_
    obtain rfl := Option.some.inj hF
    exact step_n ⟨ok, E.keep [0, 1, 6], (InR.inc r11 (pL_InR hl_0) hc12)⟩
  replace hF := cond_t hc28 hF
  refine wp_seq ?_
  refine c_region ?_
  refine l_val E ok (y_move rfl) rfl rfl fun a E => ?_
  refine l_val E ok (y_move rfl) rfl rfl fun a E => ?_
  obtain ⟨x29, e30, hF⟩ := bnd hF
  obtain ⟨b31, o32, es33, hl34, rr35, at36, yy37⟩ := idxAt sl_22 hl_0 e30 (P := Tryz.prog) (X := .tmp 34) (I := .tmp 35) (kd := .i64) (ev_of E rfl) (ev_of E rfl)
  obtain ⟨c39, rfl, l38, h40⟩ := rr35
  refine l_val E ok (yy37 _ _) rfl rfl fun a E => ?_
  refine l_val E ok (y_fieldAddr fo_44_0 rfl) rfl rfl fun a E => ?_
  refine l_val E ok (y_load one_9 rfl (Holds.ro (At.sub 0 1 at36))) rfl rfl fun a E => ?_
  refine l_val E ok (y_assign rfl) rfl rfl fun a E => ?_
  refine l_val E ok (y_assign rfl) rfl rfl fun a E => ?_
  refine wpList_nil ?_
  refine t_norm ?_
  refine wp_ret ?_
  refine b_ret ?_
  refine t_ret ?_
  have hret : calqueref14_Class_R u m0 S (x29.Class, 0) a w := ⟨ok, E.d, ⟨rv_t E rfl, rv_t E rfl, trivial⟩, l38, (show InR .i64 (0) by decide)⟩
  obtain rfl := Option.some.inj hF
  exact step_o (by nofun) (sr ⟨rfl, hret⟩)

def calquelaw14_PluralClass_R (u : World) (m0 : Mem) (S : Segs) (r : Bool) (a : Act) (w : World) : Prop :=
  Ok u m0 S w ∧ a.defers = [] ∧ RVs Tryz.prog a w [.t 4 (.bool r)]
set_option maxHeartbeats 4000000 in
set_option maxRecDepth 100000 in
theorem calquelaw14_PluralClass_w {u : World} {m0 : Mem} {S : Segs} {w : World} (N : Nat) (vl_0 : Value) (l_0 : List (Rule)) (hl_0 : (pL 2 pRule) m0 [vl_0] l_0) (number_1 : List UInt8) (lnumber_1 : number_1.length ≤ LIMS) {r : Bool} (hF : calquelaw14_PluralClass N l_0 number_1 = some r) (hG : Glob u) (ok : Ok u m0 S w) :
    Calls Tryz.prog 3 [vl_0, Value.string (bs number_1)].toArray w fun e w' => (e = .returned (.bool r) ∧ Ok u m0 S w') := by
  have hb0 := ok.base
  have le_m0 := Mem.le.refl m0
  unfold calquelaw14_PluralClass at hF
  have fin : ∀ a w, calquelaw14_PluralClass_R u m0 S r a w → bodyPost Tryz.prog Tryz.f3 (fun e w' => (e = .returned (.bool r) ∧ Ok u m0 S w')) .ret a w := by
    intro a w h
    obtain ⟨ok, hd, hrv⟩ := h
    exact c_ret2 [.t 4 (.bool r)] hd rfl hrv ⟨rfl, ok⟩
  refine enter Tryz.func3 rfl rfl rfl fun a E => ?_
  refine wp_seq ?_
  refine c_region ?_
  refine l_val E ok (y_assign rfl) rfl rfl fun a E => ?_
  refine wpList_nil ?_
  refine t_norm ?_
  refine wp_seq ?_
  refine wp_seq ?_
  refine c_region ?_
  obtain ⟨r1, e2, hF⟩ := bnd hF
  refine l_call E go_9 rfl (calquelaw14_awake_w N  e2 hG ok) rfl rfl ?_
  rintro _ w ⟨rfl, ok⟩
  refine ⟨_, rfl, fun a E => ?_⟩
  refine l_val E ok (y_not rfl) rfl rfl fun a E => ?_
  refine l_val E ok (y_move rfl) rfl rfl fun a E => ?_
  refine bsplit (!r1) (fun hc3 => ?_) (fun hc3 => ?_)
  · replace hF := cond_t hc3 hF
    replace E := E.upd 11 hc3 rfl
    refine l_skip E rfl rfl fun a E => ?_
    refine l_skip E rfl rfl fun a E => ?_
    refine l_skip E rfl rfl fun a E => ?_
    refine l_val E ok (y_pickT rfl rfl) rfl rfl fun a E => ?_
    refine l_val E ok (y_move rfl) rfl rfl fun a E => ?_
    refine l_skip E rfl rfl fun a E => ?_
    refine l_skip E rfl rfl fun a E => ?_
    refine l_skip E rfl rfl fun a E => ?_
    refine l_val E ok (y_pickT rfl rfl) rfl rfl fun a E => ?_
    refine wpList_nil ?_
    refine t_norm ?_
    refine c_if E rfl (fun _ => ?_) (fun h => by cases h)
    refine wp_seq ?_
    refine c_region ?_
    obtain ⟨r4, e5, hF⟩ := bnd hF
    refine l_call E go_9 rfl (calquelaw14_awake_w N  e5 hG ok) rfl rfl ?_
    rintro _ w ⟨rfl, ok⟩
    refine ⟨_, rfl, fun a E => ?_⟩
    refine l_val E ok (y_assign rfl) rfl rfl fun a E => ?_
    refine wpList_nil ?_
    refine t_norm ?_
    refine wp_ret ?_
    refine t_ret ?_
    have hret : calquelaw14_PluralClass_R u m0 S r4 a w := ⟨ok, E.d, ⟨rv_t E rfl, trivial⟩⟩
    obtain rfl := Option.some.inj hF
    exact fin _ _ hret
  replace hF := cond_f hc3 hF
  replace E := E.upd 11 hc3 rfl
  refine l_val E ok (y_move rfl) rfl rfl fun a E => ?_
  obtain ⟨r6, e7, hF⟩ := bnd hF
  refine l_call E go_10 rfl (calqueref14_Few_w N _ l_0 hl_0 e7 hG ok) rfl rfl ?_
  rintro _ w ⟨rfl, ok⟩
  refine ⟨_, rfl, fun a E => ?_⟩
  refine l_val E ok (y_not rfl) rfl rfl fun a E => ?_
  refine l_val E ok (y_pickF rfl rfl) rfl rfl fun a E => ?_
  refine l_val E ok (y_move rfl) rfl rfl fun a E => ?_
  refine bsplit (!r6) (fun hc8 => ?_) (fun hc8 => ?_)
  · replace hF := cond_t hc8 hF
    replace E := E.upd 16 hc8 rfl
    refine l_skip E rfl rfl fun a E => ?_
    refine l_skip E rfl rfl fun a E => ?_
    refine l_skip E rfl rfl fun a E => ?_
    refine l_val E ok (y_pickT rfl rfl) rfl rfl fun a E => ?_
    refine wpList_nil ?_
    refine t_norm ?_
    refine c_if E rfl (fun _ => ?_) (fun h => by cases h)
    refine wp_seq ?_
    refine c_region ?_
    obtain ⟨r9, e10, hF⟩ := bnd hF
    refine l_call E go_9 rfl (calquelaw14_awake_w N  e10 hG ok) rfl rfl ?_
    rintro _ w ⟨rfl, ok⟩
    refine ⟨_, rfl, fun a E => ?_⟩
    refine l_val E ok (y_assign rfl) rfl rfl fun a E => ?_
    refine wpList_nil ?_
    refine t_norm ?_
    refine wp_ret ?_
    refine t_ret ?_
    have hret : calquelaw14_PluralClass_R u m0 S r9 a w := ⟨ok, E.d, ⟨rv_t E rfl, trivial⟩⟩
    obtain rfl := Option.some.inj hF
    exact fin _ _ hret
  replace hF := cond_f hc8 hF
  replace E := E.upd 16 hc8 rfl
  refine l_val E ok (y_move rfl) rfl rfl fun a E => ?_
  refine l_val E ok (y_slen Tryz.underlying9 rfl) rfl rfl fun a E => ?_
  refine l_val E ok (y_gtr rfl rfl) rfl rfl fun a E => ?_
  refine l_val E ok (y_pickF rfl rfl) rfl rfl fun a E => ?_
  refine wpList_nil ?_
  refine t_norm ?_
  refine c_if E rfl (fun hc11 => ?_) (fun hc11 => ?_)
  · replace hF := cond_t hc11 hF
    refine wp_seq ?_
    refine c_region ?_
    obtain ⟨r12, e13, hF⟩ := bnd hF
    refine l_call E go_9 rfl (calquelaw14_awake_w N  e13 hG ok) rfl rfl ?_
    rintro _ w ⟨rfl, ok⟩
    refine ⟨_, rfl, fun a E => ?_⟩
    refine l_val E ok (y_assign rfl) rfl rfl fun a E => ?_
    refine wpList_nil ?_
    refine t_norm ?_
    refine wp_ret ?_
    refine t_ret ?_
    have hret : calquelaw14_PluralClass_R u m0 S r12 a w := ⟨ok, E.d, ⟨rv_t E rfl, trivial⟩⟩
    obtain rfl := Option.some.inj hF
    exact fin _ _ hret
  replace hF := cond_f hc11 hF
  refine wp_skip ?_
  refine t_norm ?_
  refine wp_seq ?_
  refine c_region ?_
  refine l_val E ok (y_move rfl) rfl rfl fun a E => ?_
  refine l_val E ok (y_move rfl) rfl rfl fun a E => ?_
  obtain ⟨r14, e15, hF⟩ := bnd hF
  refine l_call E go_11 rfl (plural_Class_w N _ l_0 hl_0 number_1 lnumber_1 e15 hG ok) rfl rfl ?_
  rintro _ w ⟨⟨rfl, ok⟩, l16, r17⟩
  refine ⟨_, rfl, fun a E => ?_⟩
  refine l_val E ok (y_move rfl) rfl rfl fun a E => ?_
  refine l_val E ok (y_extract rfl rfl) rfl rfl fun a E => ?_
  refine l_val E ok (y_extract rfl rfl) rfl rfl fun a E => ?_
  refine l_val E ok (y_assign rfl) rfl rfl fun a E => ?_
  refine l_val E ok (y_assign rfl) rfl rfl fun a E => ?_
  refine wpList_nil ?_
  refine t_norm ?_
  refine wp_seq ?_
  refine c_region ?_
  refine l_val E ok (y_move rfl) rfl rfl fun a E => ?_
  refine l_val E ok (y_move rfl) rfl rfl fun a E => ?_
  obtain ⟨r18, e19, hF⟩ := bnd hF
  refine l_call E go_12 rfl (calqueref14_Class_w N _ l_0 hl_0 number_1 lnumber_1 e19 hG ok) rfl rfl ?_
  rintro _ w ⟨⟨rfl, ok⟩, l20, r21⟩
  refine ⟨_, rfl, fun a E => ?_⟩
  refine l_val E ok (y_move rfl) rfl rfl fun a E => ?_
  refine l_val E ok (y_extract rfl rfl) rfl rfl fun a E => ?_
  refine l_val E ok (y_extract rfl rfl) rfl rfl fun a E => ?_
  refine l_val E ok (y_assign rfl) rfl rfl fun a E => ?_
  refine l_val E ok (y_assign rfl) rfl rfl fun a E => ?_
  refine wpList_nil ?_
  refine t_norm ?_
  refine wp_seq ?_
  refine c_region ?_
  refine l_val E ok (y_move rfl) rfl rfl fun a E => ?_
  refine l_val E ok (y_move rfl) rfl rfl fun a E => ?_
  refine l_val E ok (y_seql rfl rfl) rfl rfl fun a E => ?_
  refine l_val E ok (y_move rfl) rfl rfl fun a E => ?_
  refine bsplit (r14.1 == r18.1) (fun hc22 => ?_) (fun hc22 => ?_)
  rotate_left
  · replace hF := cond_f hc22 hF
    replace E := E.upd 37 hc22 rfl
    refine l_skip E rfl rfl fun a E => ?_
    refine l_skip E rfl rfl fun a E => ?_
    refine l_skip E rfl rfl fun a E => ?_
    refine l_val E ok (y_pickF rfl rfl) rfl rfl fun a E => ?_
    refine l_val E ok (y_move rfl) rfl rfl fun a E => ?_
    refine l_skip E rfl rfl fun a E => ?_
    refine l_skip E rfl rfl fun a E => ?_
    refine l_skip E rfl rfl fun a E => ?_
    refine l_skip E rfl rfl fun a E => ?_
    refine l_skip E rfl rfl fun a E => ?_
    refine l_val E ok (y_pickF rfl rfl) rfl rfl fun a E => ?_
    refine l_val E ok (y_assign rfl) rfl rfl fun a E => ?_
    refine wpList_nil ?_
    refine t_norm ?_
    refine wp_ret ?_
    have hret : calquelaw14_PluralClass_R u m0 S false a w := ⟨ok, E.d, ⟨rv_t E rfl, trivial⟩⟩
    obtain rfl := Option.some.inj hF
    exact fin _ _ hret
  replace hF := cond_t hc22 hF
  replace E := E.upd 37 hc22 rfl
  refine l_val E ok (y_move rfl) rfl rfl fun a E => ?_
  refine l_val E ok (y_move rfl) rfl rfl fun a E => ?_
  refine l_val E ok (y_eql rfl rfl) rfl rfl fun a E => ?_
  refine l_val E ok (y_pickT rfl rfl) rfl rfl fun a E => ?_
  refine l_val E ok (y_move rfl) rfl rfl fun a E => ?_
  refine bsplit (r14.2 == r18.2) (fun hc23 => ?_) (fun hc23 => ?_)
  rotate_left
  · replace hF := cond_f hc23 hF
    replace E := E.upd 42 hc23 rfl
    refine l_skip E rfl rfl fun a E => ?_
    refine l_skip E rfl rfl fun a E => ?_
    refine l_skip E rfl rfl fun a E => ?_
    refine l_skip E rfl rfl fun a E => ?_
    refine l_skip E rfl rfl fun a E => ?_
    refine l_val E ok (y_pickF rfl rfl) rfl rfl fun a E => ?_
    refine l_val E ok (y_assign rfl) rfl rfl fun a E => ?_
    refine wpList_nil ?_
    refine t_norm ?_
    refine wp_ret ?_
    have hret : calquelaw14_PluralClass_R u m0 S false a w := ⟨ok, E.d, ⟨rv_t E rfl, trivial⟩⟩
    obtain rfl := Option.some.inj hF
    exact fin _ _ hret
  replace hF := cond_t hc23 hF
  replace E := E.upd 42 hc23 rfl
  refine l_val E ok (y_move rfl) rfl rfl fun a E => ?_
  obtain ⟨r24, e25, hF⟩ := bnd hF
  refine l_call E go_13 rfl (plural_Valid_w N _ l_0 hl_0 e25 hG ok) rfl rfl ?_
  rintro _ w ⟨rfl, ok⟩
  refine ⟨_, rfl, fun a E => ?_⟩
  refine l_val E ok (y_move rfl) rfl rfl fun a E => ?_
  obtain ⟨r26, e27, hF⟩ := bnd hF
  refine l_call E go_14 rfl (calqueref14_Valid_w N _ l_0 hl_0 e27 hG ok) rfl rfl ?_
  rintro _ w ⟨rfl, ok⟩
  refine ⟨_, rfl, fun a E => ?_⟩
  refine l_val E ok (y_beql Tryz.underlying4 rfl rfl) rfl rfl fun a E => ?_
  refine l_val E ok (y_pickT rfl rfl) rfl rfl fun a E => ?_
  refine l_val E ok (y_assign rfl) rfl rfl fun a E => ?_
  refine wpList_nil ?_
  refine t_norm ?_
  refine wp_ret ?_
  have hret : calquelaw14_PluralClass_R u m0 S (r24 == r26) a w := ⟨ok, E.d, ⟨rv_t E rfl, trivial⟩⟩
  obtain rfl := Option.some.inj hF
  exact fin _ _ hret

end Go.Proofs.YtboacfcnmhnbdaaGreatDoor
