/- The walks of this part: the model's run of each function yields what the plain function says. Printed by gen8.py. -/
import Derived.Test.YtidfofhmnlhfjaaGreatDoorExt10a3
import Derived.Test.YtidfofhmnlhfjaaGreatDoorWalk10a2
import Derived.Test.YtidfofhmnlhfjaaGreatDoorChecked
import Derived.Test.YtidfofhmnlhfjaaGreatDoorShelf
set_option linter.unusedVariables false
namespace Go.Proofs.YtidfofhmnlhfjaaGreatDoor
open Go.X

def calqueref08_next_R (u : World) (m0 : Mem) (S : Segs) (r : Word × Int) (a : Act) (w : World) : Prop :=
  ∃ m1 v0, m0.le m1 ∧ Ok u m1 S w ∧ a.defers = [] ∧ RVs Tryz.prog a w [.c 4 163 (.agg v0.toArray), .t 5 (.int .i64 r.2)] ∧ pWord m1 v0 r.1 ∧ InR .i64 r.2
set_option maxHeartbeats 4000000 in
set_option maxRecDepth 100000 in
theorem calqueref08_next_w {u : World} {m0 : Mem} {S : Segs} {w : World} (N : Nat) (s_0 : List UInt8) (ls_0 : s_0.length ≤ LIMS) (at_1 : Int) (rat_1 : InR .i64 at_1) {r : Word × Int} (hF : calqueref08_next N s_0 at_1 = some r) (hG : Glob u) (ok : Ok u m0 S w) :
    Calls Tryz.prog 142 [Value.string (bs s_0), Value.int .i64 at_1].toArray w fun e w' => ∃ m1 v0, e = .returned (.tuple [(.agg v0.toArray), (.int .i64 r.2)].toArray) ∧ m0.le m1 ∧ Ok u m1 S w' ∧ pWord m1 v0 r.1 ∧ InR .i64 r.2 := by
  have le_m0 := Mem.le.refl m0
  unfold calqueref08_next at hF
  have fin : ∀ a w, calqueref08_next_R u m0 S r a w → bodyPost Tryz.prog Tryz.f142 (fun e w' => ∃ m1 v0, e = .returned (.tuple [(.agg v0.toArray), (.int .i64 r.2)].toArray) ∧ m0.le m1 ∧ Ok u m1 S w' ∧ pWord m1 v0 r.1 ∧ InR .i64 r.2) .ret a w := by
    intro a w h
    obtain ⟨m1, v0, hle, ok, hd, hrv, h0, h1⟩ := h
    exact c_ret2 [.c 4 163 (.agg v0.toArray), .t 5 (.int .i64 r.2)] hd rfl hrv ⟨m1, v0, rfl, hle, ok, h0, h1⟩
  refine enter Tryz.func142 rfl rfl rfl fun a E => sg <| l_alloc E ok zero_163 rfl rfl fun b1 a w E ok => lv E ok (y_assign rfl) fun a E => wn <| wp_seq ?_
  refine wp_block ?_
  obtain ⟨o3, hL, hF⟩ := bnd hF
  refine c_loop _ (fun (s : Int) a w => Ok u m0 ([(b1, Obj.cells [(Value.string (bs ([]))), (Value.int .i64 0)].toArray 163 (0, 0))] :: S) w ∧ Env 104 a [(0, (Value.string (bs s_0))), (1, (Value.int .i64 s)), (4, (Value.pointer (some ⟨b1, 0, none⟩)))] ∧ InR .i64 s) (fun (b : Int) e a w => e = (.exit 0) ∧ Ok u m0 ([(b1, Obj.cells [(Value.string (bs ([]))), (Value.int .i64 0)].toArray 163 (0, 0))] :: S) w ∧ Env 104 a [(0, (Value.string (bs s_0))), (1, (Value.int .i64 b)), (4, (Value.pointer (some ⟨b1, 0, none⟩)))] ∧ InR .i64 b) ?_ ?_ N _ a w hL ⟨ok, E.keep [0, 1, 4], rat_1⟩
  · as_aux_lemma =>
      rintro at_5 a w r ⟨ok, E, r6⟩ hF
      replace hF : calqueref08_next_b1 N s_0 at_5 = some r := hF
      unfold calqueref08_next_b1 at hF
      refine wp_seq <| wp_seq ?_
      obtain ⟨o7, hJ, hF⟩ := bnd hF
      refine c_mono (Q' := fun e a w => e = .normal ∧ Ok u m0 ([(b1, Obj.cells [(Value.string (bs ([]))), (Value.int .i64 0)].toArray 163 (0, 0))] :: S) w ∧ Env 104 a [(0, (Value.string (bs s_0))), (1, (Value.int .i64 at_5)), (4, (Value.pointer (some ⟨b1, 0, none⟩))), (28, (Value.bool o7))]) ?_ ?_
      rotate_left
      · clear hJ
        intro e a w hO
        obtain ⟨rfl, ok, E⟩ := hO
        refine t_norm <| c_if E rfl (fun hc17 => ?_) (fun hc17 => ?_)
        rotate_left
        · replace hF := cond_f hc17 hF
          refine wp_exit <| t_exit ?_
          obtain rfl := sj hF
          exact step_o (by nofun) (⟨rfl, ⟨ok, E.keep [0, 1, 4], r6⟩⟩)
        replace hF := cond_t hc17 hF
        refine wp_skip <| t_norm <| wp_block <| c_region <| lv E ok (y_move rfl) fun a E => lv E ok (y_addw rfl rfl) fun a E => lv E ok (y_assign rfl) fun a E => wpList_nil ?_
        refine b_norm ?_
        obtain rfl := sj hF
        exact step_n ⟨ok, E.keep [0, 1, 4], (InR.wrap _ _)⟩
      replace hF := hJ
      clear hJ
      refine c_region <| lv E ok (y_move rfl) fun a E => lv E ok (y_move rfl) fun a E => lv E ok (y_slen Tryz.underlying9 rfl) fun a E => lv E ok (y_lss rfl rfl) fun a E => lv E ok (y_move rfl) fun a E => bsplit (decide (at_5 < (s_0.length : Int))) (fun hc8 => ?_) (fun hc8 => ?_)
      rotate_left
      · replace hF := cond_f hc8 hF
        replace E := E.upd 11 hc8 rfl
        refine ls E fun a E => ls E fun a E => ls E fun a E => ls E fun a E => ls E fun a E => ls E fun a E => ls E fun a E => ls E fun a E => ?_
        refine ls E fun a E => ls E fun a E => ls E fun a E => ls E fun a E => ls E fun a E => ls E fun a E => ls E fun a E => ls E fun a E => ?_
        refine lv E ok (y_pickF rfl rfl) fun a E => wpList_nil ?_
        obtain rfl := sj hF
        exact ⟨rfl, ⟨ok, E.keep [0, 1, 4, 28]⟩⟩
      replace hF := cond_t hc8 hF
      replace E := E.upd 11 hc8 rfl
      refine lv E ok (y_move rfl) fun a E => lv E ok (y_move rfl) fun a E => ?_
      obtain ⟨c9, e10, hF⟩ := bnd hF
      refine lv E ok (y_index Tryz.underlying9 rfl rfl e10) fun a E => lv E ok (y_eql rfl rfl) fun a E => lv E ok (y_move rfl) fun a E => bsplit ((c9.toNat : Int) == 32) (fun hc11 => ?_) (fun hc11 => ?_)
      · replace hF := cond_t hc11 hF
        replace E := E.upd 16 hc11 rfl
        refine ls E fun a E => ls E fun a E => ls E fun a E => ls E fun a E => lv E ok (y_pickT rfl rfl) fun a E => lv E ok (y_move rfl) fun a E => ls E fun a E => ls E fun a E => ?_
        refine ls E fun a E => ls E fun a E => lv E ok (y_pickT rfl rfl) fun a E => lv E ok (y_pickT rfl rfl) fun a E => wpList_nil ?_
        obtain rfl := sj hF
        exact ⟨rfl, ⟨ok, E.keep [0, 1, 4, 28]⟩⟩
      replace hF := cond_f hc11 hF
      replace E := E.upd 16 hc11 rfl
      refine lv E ok (y_move rfl) fun a E => lv E ok (y_move rfl) fun a E => ?_
      obtain ⟨c12, e13, hF⟩ := bnd hF
      refine lv E ok (y_index Tryz.underlying9 rfl rfl e13) fun a E => lv E ok (y_eql rfl rfl) fun a E => lv E ok (y_pickF rfl rfl) fun a E => lv E ok (y_move rfl) fun a E => bsplit ((c12.toNat : Int) == 9) (fun hc14 => ?_) (fun hc14 => ?_)
      · replace hF := cond_t hc14 hF
        replace E := E.upd 22 hc14 rfl
        refine ls E fun a E => ls E fun a E => ls E fun a E => ls E fun a E => lv E ok (y_pickT rfl rfl) fun a E => lv E ok (y_pickT rfl rfl) fun a E => wpList_nil ?_
        obtain rfl := sj hF
        exact ⟨rfl, ⟨ok, E.keep [0, 1, 4, 28]⟩⟩
      replace hF := cond_f hc14 hF
      replace E := E.upd 22 hc14 rfl
      refine lv E ok (y_move rfl) fun a E => lv E ok (y_move rfl) fun a E => ?_
      obtain ⟨c15, e16, hF⟩ := bnd hF
      refine lv E ok (y_index Tryz.underlying9 rfl rfl e16) fun a E => lv E ok (y_eql rfl rfl) fun a E => lv E ok (y_pickF rfl rfl) fun a E => lv E ok (y_pickT rfl rfl) fun a E => wpList_nil ?_
      obtain rfl := sj hF
      exact ⟨rfl, ⟨ok, E.keep [0, 1, 4, 28]⟩⟩
  intro e a w _ hO
  obtain ⟨rfl, ok, E, r18⟩ := hO
  refine b_hit <| t_norm <| wp_seq <| sg <| lv E ok (y_move rfl) fun a E => lv E ok (y_move rfl) fun a E => lv E ok (y_slen Tryz.underlying9 rfl) fun a E => ?_
  refine lv E ok (y_eql rfl rfl) fun a E => wn <| c_if E rfl (fun hc19 => ?_) (fun hc19 => ?_)
  · replace hF := cond_t hc19 hF
    refine sg <| lv E ok (y_move rfl) fun a E => lv E ok (y_build (ps := [(0, .const (Value.string (bs ([])))), (1, .tmp 35)]) (qs := [(0, [(Value.string (bs ([])))]), (1, [(Value.int .i64 o3)])]) (cs := [(Value.string (bs ([]))), (Value.int .i64 o3)]) zero_163 places_163 rfl ⟨rfl, rfl, rfl, ⟨rfl, rfl, rfl, trivial⟩⟩ rfl) fun a E => lv E ok (y_move rfl) fun a E => l_storeB E ok 0 rfl rfl rfl inf_163 rfl rfl ⟨rfl, rfl, trivial⟩ rfl rfl fun w ok => lv E ok (y_assign rfl) fun a E => wpList_nil ?_
    refine t_norm <| wp_ret <| t_ret ?_
    have hret : calqueref08_next_R u m0 S ((Word.mk ([]) o3), o3) a w := ⟨m0, [(Value.string (bs ([]))), (Value.int .i64 o3)], le_m0, ok.drop, E.d, ⟨rv_c (cs := [(Value.string (bs ([]))), (Value.int .i64 o3)]) E ok rfl agg_163 rfl (Holds.own 0 rfl rfl), rv_t E rfl, trivial⟩, ⟨rfl, (show ([] : List UInt8).length ≤ LIMS by decide), r18⟩, r18⟩
    obtain rfl := sj hF
    exact fin _ _ hret
  replace hF := cond_f hc19 hF
  refine wp_skip <| t_norm <| sg <| lv E ok (y_move rfl) fun a E => lv E ok (y_move rfl) fun a E => ?_
  obtain ⟨s20, e21, hF⟩ := bnd hF
  refine lv E ok (y_sslice Tryz.underlying9 e21 rfl ⟨_, rfl⟩ rfl) fun a E => ?_
  obtain ⟨r22, e23, hF⟩ := bnd hF
  refine l_call E go_163 rfl (calqueref08_longest_w N s20 (Nat.le_trans (slc_len e21) ls_0) 97 (show InR .u8 (97) by decide) 122 (show InR .u8 (122) by decide) e23 hG ok) rfl rfl ?_
  rintro _ w ⟨⟨rfl, ok⟩, r24⟩
  refine ⟨_, rfl, fun a E => ?_⟩
  refine lv E ok (y_assign rfl) fun a E => wn <| wp_seq <| sg <| lv E ok (y_move rfl) fun a E => lv E ok (y_eql rfl rfl) fun a E => ?_
  refine wn ?_
  obtain ⟨o25, hJ, hF⟩ := bnd hF
  refine c_mono (Q' := fun e a w => e = .normal ∧ Ok u m0 ([(b1, Obj.cells [(Value.string (bs ([]))), (Value.int .i64 0)].toArray 163 (0, 0))] :: S) w ∧ Env 104 a [(0, (Value.string (bs s_0))), (1, (Value.int .i64 o3)), (4, (Value.pointer (some ⟨b1, 0, none⟩))), (6, (Value.int .i64 o25))] ∧ InR .i64 o25) ?_ ?_
  · replace hF := hJ
    clear hJ
    refine c_if E rfl (fun hc27 => ?_) (fun hc27 => ?_)
    rotate_left
    · replace hF := cond_f hc27 hF
      refine wp_skip ?_
      obtain rfl := sj hF
      exact ⟨rfl, ⟨ok, E.keep [0, 1, 4, 6], r24⟩⟩
    replace hF := cond_t hc27 hF
    refine c_region <| lv E ok (y_move rfl) fun a E => lv E ok (y_move rfl) fun a E => ?_
    obtain ⟨s28, e29, hF⟩ := bnd hF
    refine lv E ok (y_sslice Tryz.underlying9 e29 rfl ⟨_, rfl⟩ rfl) fun a E => ?_
    obtain ⟨r30, e31, hF⟩ := bnd hF
    refine l_call E go_163 rfl (calqueref08_longest_w N s28 (Nat.le_trans (slc_len e29) ls_0) 48 (show InR .u8 (48) by decide) 57 (show InR .u8 (57) by decide) e31 hG ok) rfl rfl ?_
    rintro _ w ⟨⟨rfl, ok⟩, r32⟩
    refine ⟨_, rfl, fun a E => ?_⟩
    refine lv E ok (y_assign rfl) fun a E => wpList_nil ?_
    obtain rfl := sj hF
    exact ⟨rfl, ⟨ok, E.keep [0, 1, 4, 6], r32⟩⟩
  clear hJ
  intro e a w hO
  obtain ⟨rfl, ok, E, r33⟩ := hO
  refine t_norm <| wp_seq <| wp_seq ?_
  obtain ⟨o34, hJ, hF⟩ := bnd hF
  refine c_mono (Q' := fun e a w => e = .normal ∧ Ok u m0 ([(b1, Obj.cells [(Value.string (bs ([]))), (Value.int .i64 0)].toArray 163 (0, 0))] :: S) w ∧ Env 104 a [(0, (Value.string (bs s_0))), (1, (Value.int .i64 o3)), (4, (Value.pointer (some ⟨b1, 0, none⟩))), (6, (Value.int .i64 o25)), (72, (Value.bool o34))]) ?_ ?_
  · as_aux_lemma =>
      replace hF := hJ
      clear hJ
      refine c_region <| lv E ok (y_move rfl) fun a E => lv E ok (y_eql rfl rfl) fun a E => lv E ok (y_move rfl) fun a E => bsplit (o25 == 0) (fun hc35 => ?_) (fun hc35 => ?_)
      rotate_left
      · replace hF := cond_f hc35 hF
        replace E := E.upd 50 hc35 rfl
        refine ls E fun a E => ls E fun a E => ls E fun a E => ls E fun a E => ls E fun a E => lv E ok (y_pickF rfl rfl) fun a E => lv E ok (y_move rfl) fun a E => ls E fun a E => ?_
        refine ls E fun a E => ls E fun a E => ls E fun a E => ls E fun a E => ls E fun a E => ls E fun a E => ls E fun a E => ls E fun a E => ?_
        refine ls E fun a E => ls E fun a E => ls E fun a E => ls E fun a E => ls E fun a E => lv E ok (y_pickF rfl rfl) fun a E => wpList_nil ?_
        obtain rfl := sj hF
        exact ⟨rfl, ⟨ok, E.keep [0, 1, 4, 6, 72]⟩⟩
      replace hF := cond_t hc35 hF
      replace E := E.upd 50 hc35 rfl
      refine lv E ok (y_move rfl) fun a E => lv E ok (y_addw rfl rfl) fun a E => lv E ok (y_move rfl) fun a E => lv E ok (y_slen Tryz.underlying9 rfl) fun a E => lv E ok (y_lss rfl rfl) fun a E => lv E ok (y_pickT rfl rfl) fun a E => lv E ok (y_move rfl) fun a E => bsplit (decide ((IntKind.wrap .i64 (o3 + 1)) < (s_0.length : Int))) (fun hc36 => ?_) (fun hc36 => ?_)
      rotate_left
      · replace hF := cond_f hc36 hF
        replace E := E.upd 57 hc36 rfl
        refine ls E fun a E => ls E fun a E => ls E fun a E => ls E fun a E => ls E fun a E => ls E fun a E => ls E fun a E => ls E fun a E => ?_
        refine ls E fun a E => ls E fun a E => ls E fun a E => ls E fun a E => ls E fun a E => ls E fun a E => lv E ok (y_pickF rfl rfl) fun a E => wpList_nil ?_
        obtain rfl := sj hF
        exact ⟨rfl, ⟨ok, E.keep [0, 1, 4, 6, 72]⟩⟩
      replace hF := cond_t hc36 hF
      replace E := E.upd 57 hc36 rfl
      refine lv E ok (y_move rfl) fun a E => lv E ok (y_move rfl) fun a E => lv E ok (y_move rfl) fun a E => lv E ok (y_addw rfl rfl) fun a E => ?_
      obtain ⟨s37, e38, hF⟩ := bnd hF
      refine lv E ok (y_sslice Tryz.underlying9 e38 rfl ⟨_, rfl⟩ ⟨_, rfl⟩) fun a E => lv E ok (y_seql rfl rfl) fun a E => lv E ok (y_move rfl) fun a E => bsplit (s37 == ([33, 61])) (fun hc39 => ?_) (fun hc39 => ?_)
      · replace hF := cond_t hc39 hF
        replace E := E.upd 64 hc39 rfl
        refine ls E fun a E => ls E fun a E => ls E fun a E => ls E fun a E => ls E fun a E => ls E fun a E => lv E ok (y_pickT rfl rfl) fun a E => lv E ok (y_pickT rfl rfl) fun a E => ?_
        refine wpList_nil ?_
        obtain rfl := sj hF
        exact ⟨rfl, ⟨ok, E.keep [0, 1, 4, 6, 72]⟩⟩
      replace hF := cond_f hc39 hF
      replace E := E.upd 64 hc39 rfl
      refine lv E ok (y_move rfl) fun a E => lv E ok (y_move rfl) fun a E => lv E ok (y_move rfl) fun a E => lv E ok (y_addw rfl rfl) fun a E => ?_
      obtain ⟨s40, e41, hF⟩ := bnd hF
      refine lv E ok (y_sslice Tryz.underlying9 e41 rfl ⟨_, rfl⟩ ⟨_, rfl⟩) fun a E => lv E ok (y_seql rfl rfl) fun a E => lv E ok (y_pickF rfl rfl) fun a E => lv E ok (y_pickT rfl rfl) fun a E => wpList_nil ?_
      obtain rfl := sj hF
      exact ⟨rfl, ⟨ok, E.keep [0, 1, 4, 6, 72]⟩⟩
  clear hJ
  intro e a w hO
  obtain ⟨rfl, ok, E⟩ := hO
  refine t_norm ?_
  obtain ⟨o42, hJ, hF⟩ := bnd hF
  refine c_mono (Q' := fun e a w => e = .normal ∧ Ok u m0 ([(b1, Obj.cells [(Value.string (bs ([]))), (Value.int .i64 0)].toArray 163 (0, 0))] :: S) w ∧ Env 104 a [(0, (Value.string (bs s_0))), (1, (Value.int .i64 o3)), (4, (Value.pointer (some ⟨b1, 0, none⟩))), (6, (Value.int .i64 o42))] ∧ InR .i64 o42) ?_ ?_
  · replace hF := hJ
    clear hJ
    refine c_if E rfl (fun hc44 => ?_) (fun hc44 => ?_)
    rotate_left
    · replace hF := cond_f hc44 hF
      refine wp_skip ?_
      obtain rfl := sj hF
      exact ⟨rfl, ⟨ok, E.keep [0, 1, 4, 6], r33⟩⟩
    replace hF := cond_t hc44 hF
    refine c_region <| lv E ok (y_assign rfl) fun a E => wpList_nil ?_
    obtain rfl := sj hF
    exact ⟨rfl, ⟨ok, E.keep [0, 1, 4, 6], (show InR .i64 (2) by decide)⟩⟩
  clear hJ
  intro e a w hO
  obtain ⟨rfl, ok, E, r45⟩ := hO
  refine t_norm <| wp_seq <| wp_seq ?_
  obtain ⟨o46, hJ, hF⟩ := bnd hF
  refine c_mono (Q' := fun e a w => e = .normal ∧ Ok u m0 ([(b1, Obj.cells [(Value.string (bs ([]))), (Value.int .i64 0)].toArray 163 (0, 0))] :: S) w ∧ Env 104 a [(0, (Value.string (bs s_0))), (1, (Value.int .i64 o3)), (4, (Value.pointer (some ⟨b1, 0, none⟩))), (6, (Value.int .i64 o42)), (92, (Value.bool o46))]) ?_ ?_
  rotate_left
  · clear hJ
    intro e a w hO
    obtain ⟨rfl, ok, E⟩ := hO
    refine t_norm ?_
    obtain ⟨o56, hJ, hF⟩ := bnd hF
    refine c_mono (Q' := fun e a w => e = .normal ∧ Ok u m0 ([(b1, Obj.cells [(Value.string (bs ([]))), (Value.int .i64 0)].toArray 163 (0, 0))] :: S) w ∧ Env 104 a [(0, (Value.string (bs s_0))), (1, (Value.int .i64 o3)), (4, (Value.pointer (some ⟨b1, 0, none⟩))), (6, (Value.int .i64 o56))] ∧ InR .i64 o56) ?_ ?_
    · replace hF := hJ
      clear hJ
      refine c_if E rfl (fun hc58 => ?_) (fun hc58 => ?_)
      rotate_left
      · replace hF := cond_f hc58 hF
        refine wp_skip ?_
        obtain rfl := sj hF
        exact ⟨rfl, ⟨ok, E.keep [0, 1, 4, 6], r45⟩⟩
      replace hF := cond_t hc58 hF
      refine c_region <| lv E ok (y_assign rfl) fun a E => wpList_nil ?_
      obtain rfl := sj hF
      exact ⟨rfl, ⟨ok, E.keep [0, 1, 4, 6], (show InR .i64 (1) by decide)⟩⟩
    clear hJ
    intro e a w hO
    obtain ⟨rfl, ok, E, r59⟩ := hO
    refine t_norm <| sg <| lv E ok (y_move rfl) fun a E => lv E ok (y_move rfl) fun a E => lv E ok (y_move rfl) fun a E => lv E ok (y_move rfl) fun a E => lv E ok (y_addw rfl rfl) fun a E => ?_
    obtain ⟨s60, e61, hF⟩ := bnd hF
    refine lv E ok (y_sslice Tryz.underlying9 e61 rfl ⟨_, rfl⟩ ⟨_, rfl⟩) fun a E => lv E ok (y_move rfl) fun a E => lv E ok (y_build (ps := [(0, .tmp 98), (1, .tmp 99)]) (qs := [(0, [(Value.string (bs s60))]), (1, [(Value.int .i64 o3)])]) (cs := [(Value.string (bs s60)), (Value.int .i64 o3)]) zero_163 places_163 rfl ⟨rfl, rfl, rfl, ⟨rfl, rfl, rfl, trivial⟩⟩ rfl) fun a E => lv E ok (y_move rfl) fun a E => lv E ok (y_move rfl) fun a E => lv E ok (y_addw rfl rfl) fun a E => l_storeB E ok 0 rfl rfl rfl inf_163 rfl rfl ⟨rfl, rfl, trivial⟩ rfl rfl fun w ok => lv E ok (y_assign rfl) fun a E => ?_
    refine wn <| wp_ret ?_
    have hret : calqueref08_next_R u m0 S ((Word.mk s60 o3), (IntKind.wrap .i64 (o3 + o56))) a w := ⟨m0, [(Value.string (bs s60)), (Value.int .i64 o3)], le_m0, ok.drop, E.d, ⟨rv_c (cs := [(Value.string (bs s60)), (Value.int .i64 o3)]) E ok rfl agg_163 rfl (Holds.own 0 rfl rfl), rv_t E rfl, trivial⟩, ⟨rfl, (Nat.le_trans (slc_len e61) ls_0), r18⟩, (InR.wrap _ _)⟩
    obtain rfl := sj hF
    exact fin _ _ hret
  replace hF := hJ
  clear hJ
  refine c_region <| lv E ok (y_move rfl) fun a E => lv E ok (y_eql rfl rfl) fun a E => lv E ok (y_move rfl) fun a E => bsplit (o42 == 0) (fun hc47 => ?_) (fun hc47 => ?_)
  rotate_left
  · replace hF := cond_f hc47 hF
    replace E := E.upd 75 hc47 rfl
    refine ls E fun a E => ls E fun a E => ls E fun a E => ls E fun a E => ls E fun a E => ls E fun a E => ls E fun a E => ls E fun a E => ?_
    refine ls E fun a E => ls E fun a E => ls E fun a E => ls E fun a E => ls E fun a E => ls E fun a E => ls E fun a E => ls E fun a E => ?_
    refine lv E ok (y_pickF rfl rfl) fun a E => wpList_nil ?_
    obtain rfl := sj hF
    exact ⟨rfl, ⟨ok, E.keep [0, 1, 4, 6, 92]⟩⟩
  replace hF := cond_t hc47 hF
  replace E := E.upd 75 hc47 rfl
  refine lv E ok (y_move rfl) fun a E => lv E ok (y_move rfl) fun a E => ?_
  obtain ⟨c48, e49, hF⟩ := bnd hF
  refine lv E ok (y_index Tryz.underlying9 rfl rfl e49) fun a E => lv E ok (y_eql rfl rfl) fun a E => lv E ok (y_move rfl) fun a E => bsplit ((c48.toNat : Int) == 37) (fun hc50 => ?_) (fun hc50 => ?_)
  · replace hF := cond_t hc50 hF
    replace E := E.upd 80 hc50 rfl
    refine ls E fun a E => ls E fun a E => ls E fun a E => ls E fun a E => lv E ok (y_pickT rfl rfl) fun a E => lv E ok (y_move rfl) fun a E => ls E fun a E => ls E fun a E => ?_
    refine ls E fun a E => ls E fun a E => lv E ok (y_pickT rfl rfl) fun a E => lv E ok (y_pickT rfl rfl) fun a E => wpList_nil ?_
    obtain rfl := sj hF
    exact ⟨rfl, ⟨ok, E.keep [0, 1, 4, 6, 92]⟩⟩
  replace hF := cond_f hc50 hF
  replace E := E.upd 80 hc50 rfl
  refine lv E ok (y_move rfl) fun a E => lv E ok (y_move rfl) fun a E => ?_
  obtain ⟨c51, e52, hF⟩ := bnd hF
  refine lv E ok (y_index Tryz.underlying9 rfl rfl e52) fun a E => lv E ok (y_eql rfl rfl) fun a E => lv E ok (y_pickF rfl rfl) fun a E => lv E ok (y_move rfl) fun a E => bsplit ((c51.toNat : Int) == 61) (fun hc53 => ?_) (fun hc53 => ?_)
  · replace hF := cond_t hc53 hF
    replace E := E.upd 86 hc53 rfl
    refine ls E fun a E => ls E fun a E => ls E fun a E => ls E fun a E => lv E ok (y_pickT rfl rfl) fun a E => lv E ok (y_pickT rfl rfl) fun a E => wpList_nil ?_
    obtain rfl := sj hF
    exact ⟨rfl, ⟨ok, E.keep [0, 1, 4, 6, 92]⟩⟩
  replace hF := cond_f hc53 hF
  replace E := E.upd 86 hc53 rfl
  refine lv E ok (y_move rfl) fun a E => lv E ok (y_move rfl) fun a E => ?_
  obtain ⟨c54, e55, hF⟩ := bnd hF
  refine lv E ok (y_index Tryz.underlying9 rfl rfl e55) fun a E => lv E ok (y_eql rfl rfl) fun a E => lv E ok (y_pickF rfl rfl) fun a E => lv E ok (y_pickT rfl rfl) fun a E => wpList_nil ?_
  obtain rfl := sj hF
  exact ⟨rfl, ⟨ok, E.keep [0, 1, 4, 6, 92]⟩⟩

def calqueref08_parser_step_R (u : World) (m0 : Mem) (S : Segs) (pb0 : Nat) (x0 : Parser) (r : Parser) (a : Act) (w : World) : Prop :=
  Ok u m0 ([(pb0, Obj.cells [(Value.string (bs r.s)), (Value.int .i64 r.to_), (Value.string (bs r.w.text)), (Value.int .i64 r.w.at_), (Value.int .i64 r.at_), (Value.int .i64 r.e)].toArray 165 (0, 0))] :: S) w ∧ a.defers = [] ∧ RVs Tryz.prog a w [] ∧ r.s.length ≤ LIMS ∧ InR .i64 r.to_ ∧ r.w.text.length ≤ LIMS ∧ InR .i64 r.w.at_ ∧ InR .i64 r.at_ ∧ InR .i64 r.e
set_option maxHeartbeats 4000000 in
set_option maxRecDepth 100000 in
theorem calqueref08_parser_step_w {u : World} {m0 : Mem} {S : Segs} {w : World} (N : Nat) {pb0 : Nat} (x0 : Parser) (l1 : x0.s.length ≤ LIMS) (r2 : InR .i64 x0.to_) (l3 : x0.w.text.length ≤ LIMS) (r4 : InR .i64 x0.w.at_) (r5 : InR .i64 x0.at_) (r6 : InR .i64 x0.e) {r : Parser} (hF : calqueref08_parser_step N x0 = some r) (hG : Glob u) (ok : Ok u m0 ([(pb0, Obj.cells [(Value.string (bs x0.s)), (Value.int .i64 x0.to_), (Value.string (bs x0.w.text)), (Value.int .i64 x0.w.at_), (Value.int .i64 x0.at_), (Value.int .i64 x0.e)].toArray 165 (0, 0))] :: S) w) :
    Calls Tryz.prog 111 [Value.pointer (some ⟨pb0, 0, none⟩)].toArray w fun e w' => (e = .returned (.tuple [].toArray) ∧ Ok u m0 ([(pb0, Obj.cells [(Value.string (bs r.s)), (Value.int .i64 r.to_), (Value.string (bs r.w.text)), (Value.int .i64 r.w.at_), (Value.int .i64 r.at_), (Value.int .i64 r.e)].toArray 165 (0, 0))] :: S) w') ∧ r.s.length ≤ LIMS ∧ InR .i64 r.to_ ∧ r.w.text.length ≤ LIMS ∧ InR .i64 r.w.at_ ∧ InR .i64 r.at_ ∧ InR .i64 r.e := by
  have hb0 := ok.base
  have le_m0 := Mem.le.refl m0
  unfold calqueref08_parser_step at hF
  have fin : ∀ a w, calqueref08_parser_step_R u m0 S pb0 x0 r a w → bodyPost Tryz.prog Tryz.f111 (fun e w' => (e = .returned (.tuple [].toArray) ∧ Ok u m0 ([(pb0, Obj.cells [(Value.string (bs r.s)), (Value.int .i64 r.to_), (Value.string (bs r.w.text)), (Value.int .i64 r.w.at_), (Value.int .i64 r.at_), (Value.int .i64 r.e)].toArray 165 (0, 0))] :: S) w') ∧ r.s.length ≤ LIMS ∧ InR .i64 r.to_ ∧ r.w.text.length ≤ LIMS ∧ InR .i64 r.w.at_ ∧ InR .i64 r.at_ ∧ InR .i64 r.e) .ret a w := by
    intro a w h
    obtain ⟨ok, hd, hrv, h0, h1, h2, h3, h4, h5⟩ := h
    exact c_ret2 [] hd rfl hrv ⟨⟨rfl, ok⟩, h0, h1, h2, h3, h4, h5⟩
  refine enter Tryz.func111 rfl rfl rfl fun a E => sg <| lv E ok (y_move rfl) fun a E => lv E ok (y_nilCheck rfl) fun a E => lv E ok (y_fieldAddr fo_165_4 rfl) fun a E => lv E ok (y_load one_27 rfl (Holds.own 0 rfl rfl)) fun a E => lv E ok (y_eql rfl rfl) fun a E => ?_
  refine wn <| c_if E rfl (fun hc13 => ?_) (fun hc13 => ?_)
  rotate_left
  · replace hF := cond_f hc13 hF
    refine wp_skip ?_
    have hret : calqueref08_parser_step_R u m0 S pb0 x0 x0 a w := ⟨ok, E.d, trivial, l1, r2, l3, r4, r5, r6⟩
    obtain rfl := sj hF
    exact fin _ _ hret
  replace hF := cond_t hc13 hF
  obtain ⟨o14, hJ, hF⟩ := bnd hF
  refine c_mono (Q' := fun e a w => e = .normal ∧ ∃ m15, m0.le m15 ∧ Ok u m15 ([(pb0, Obj.cells [(Value.string (bs o14.s)), (Value.int .i64 o14.to_), (Value.string (bs o14.w.text)), (Value.int .i64 o14.w.at_), (Value.int .i64 o14.at_), (Value.int .i64 o14.e)].toArray 165 (0, 0))] :: S) w ∧ Env 25 a [] ∧ o14.s.length ≤ LIMS ∧ InR .i64 o14.to_ ∧ o14.w.text.length ≤ LIMS ∧ InR .i64 o14.w.at_ ∧ InR .i64 o14.at_ ∧ InR .i64 o14.e) ?_ ?_
  rotate_left
  · clear hJ
    intro e a w hO
    obtain ⟨rfl, m36, hle, ok, E, l37, r38, l39, r40, r41, r42⟩ := hO
    have le_m0 := le_m0.trans hle
    have hret : calqueref08_parser_step_R u m0 S pb0 x0 o14 a w := ⟨((ok).down hb0 le_m0), E.d, trivial, l37, r38, l39, r40, r41, r42⟩
    obtain rfl := sj hF
    exact fin _ _ hret
  replace hF := hJ
  clear hJ
  obtain ⟨r22, e23, hF⟩ := bnd hF
  obtain rfl := sj hF
  refine k_begin [5, 9] (Cls u m0 ([(pb0, Obj.cells [(Value.string (bs x0.s)), (Value.int .i64 x0.to_), (Value.string (bs x0.w.text)), (Value.int .i64 x0.w.at_), (Value.int .i64 x0.at_), (Value.int .i64 x0.e)].toArray 165 (0, 0))] :: [])) (Cls u m0 ([])) (by kernel_rfl) ?_
  intro w hw
  replace ok := okdrew ok hw
  clear hw
  refine k_next (cl1 ⟨m0, _, le_m0, ok, ⟨memAt 0 rfl, trivial⟩⟩ ⟨m0, _, le_m0, ok, trivial⟩) fun hT => kt 0 E rfl hT (y_move rfl) fun a E => kt 1 E rfl hT (y_move rfl) fun a E => kt 2 E rfl hT (y_move rfl) fun a E => kt 3 E rfl hT (y_nilCheck rfl) fun a E => kt 4 E rfl hT (y_fieldAddr fo_165_0 rfl) fun a E => k_takeN 5 E rfl (by kernel_rfl) nP hT (y_load one_9 rfl (Holds.cown 0 rfl rfl)) rfl rfl fun a E => kt 6 E rfl hT (y_move rfl) fun a E => ?_
  refine kt 7 E rfl hT (y_nilCheck rfl) fun a E => kt 8 E rfl hT (y_fieldAddr fo_165_1 rfl) fun a E => k_takeN 9 E rfl (by kernel_rfl) nP hT (y_load one_3 rfl (Holds.cown 0 rfl rfl)) rfl rfl fun a E => k_all [10] (by kernel_rfl) rfl (one_c ?_)
  · refine wpOp_of_list (o := _) rfl <| l_call E go_142 rfl (calqueref08_next_w N x0.s l1 x0.to_ r2 e23 hG ok) rfl rfl ?_
    rintro _ w ⟨m30, vs31, rfl, hle, ok, h32, r33⟩
    have le_m0 := le_m0.trans hle
    obtain ⟨rfl, l34, r35⟩ := h32
    refine ⟨_, rfl, fun a E => ?_⟩
    refine wn <| k_next (cl1 ⟨m30, _, le_m0, ok, ⟨memAt 0 rfl, trivial⟩⟩ ⟨m30, _, le_m0, ok, trivial⟩) fun hT => kt 11 E rfl hT (y_move rfl) fun a E => kt 12 E rfl hT (y_extract rfl rfl) fun a E => kt 13 E rfl hT (y_extract rfl rfl) fun a E => kt 14 E rfl hT (y_nilCheck rfl) fun a E => kt 15 E rfl hT (y_fieldAddr fo_165_2 rfl) fun a E => ?_
    refine k_all [16] (by kernel_rfl) rfl (one_c ?_)
    · refine wpOp_of_list (o := _) rfl <| l_storeB E ok 0 rfl rfl rfl inf_163 rfl rfl ⟨rfl, rfl, trivial⟩ rfl rfl fun w ok => wn <| k_next (cl2 (by kernel_rfl) ⟨m30, _, le_m0, ok, trivial⟩) fun hT => kt 17 E rfl hT (y_nilCheck rfl) fun a E => kt 18 E rfl hT (y_fieldAddr fo_165_1 rfl) fun a E => k_all [19] (by kernel_rfl) rfl (one_c ?_)
      · refine wpOp_of_list (o := _) rfl <| l_storeB E ok 0 rfl rfl rfl inf_3 rfl rfl ⟨rfl, trivial⟩ rfl rfl fun w ok => wn <| k_next (cl2 (by kernel_rfl) ⟨m30, _, le_m0, ok, trivial⟩) fun hT => k_done (by kernel_rfl) ?_
        exact ⟨rfl, ⟨m30, le_m0, ok, E.keep [], l1, r33, l34, r35, r5, r6⟩⟩

def calqueref08_parser_is_R (u : World) (m0 : Mem) (S : Segs) (pb0 : Nat) (x0 : Parser) (r : Bool) (a : Act) (w : World) : Prop :=
  Ok u m0 ([(pb0, Obj.cells [(Value.string (bs x0.s)), (Value.int .i64 x0.to_), (Value.string (bs x0.w.text)), (Value.int .i64 x0.w.at_), (Value.int .i64 x0.at_), (Value.int .i64 x0.e)].toArray 165 (0, 0))] :: S) w ∧ a.defers = [] ∧ RVs Tryz.prog a w [.t 4 (.bool r)]
set_option maxHeartbeats 4000000 in
set_option maxRecDepth 100000 in
theorem calqueref08_parser_is_w {u : World} {m0 : Mem} {S : Segs} {w : World} (N : Nat) (s_1 : List UInt8) (ls_1 : s_1.length ≤ LIMS) {pb0 : Nat} (x0 : Parser) (l1 : x0.s.length ≤ LIMS) (r2 : InR .i64 x0.to_) (l3 : x0.w.text.length ≤ LIMS) (r4 : InR .i64 x0.w.at_) (r5 : InR .i64 x0.at_) (r6 : InR .i64 x0.e) {r : Bool} (hF : calqueref08_parser_is N s_1 x0 = some r) (hG : Glob u) (ok : Ok u m0 ([(pb0, Obj.cells [(Value.string (bs x0.s)), (Value.int .i64 x0.to_), (Value.string (bs x0.w.text)), (Value.int .i64 x0.w.at_), (Value.int .i64 x0.at_), (Value.int .i64 x0.e)].toArray 165 (0, 0))] :: S) w) :
    Calls Tryz.prog 115 [Value.pointer (some ⟨pb0, 0, none⟩), Value.string (bs s_1)].toArray w fun e w' => (e = .returned (.bool r) ∧ Ok u m0 ([(pb0, Obj.cells [(Value.string (bs x0.s)), (Value.int .i64 x0.to_), (Value.string (bs x0.w.text)), (Value.int .i64 x0.w.at_), (Value.int .i64 x0.at_), (Value.int .i64 x0.e)].toArray 165 (0, 0))] :: S) w') := by
  have hb0 := ok.base
  have le_m0 := Mem.le.refl m0
  unfold calqueref08_parser_is at hF
  have fin : ∀ a w, calqueref08_parser_is_R u m0 S pb0 x0 r a w → bodyPost Tryz.prog Tryz.f115 (fun e w' => (e = .returned (.bool r) ∧ Ok u m0 ([(pb0, Obj.cells [(Value.string (bs x0.s)), (Value.int .i64 x0.to_), (Value.string (bs x0.w.text)), (Value.int .i64 x0.w.at_), (Value.int .i64 x0.at_), (Value.int .i64 x0.e)].toArray 165 (0, 0))] :: S) w')) .ret a w := by
    intro a w h
    obtain ⟨ok, hd, hrv⟩ := h
    exact c_ret2 [.t 4 (.bool r)] hd rfl hrv ⟨rfl, ok⟩
  refine enter Tryz.func115 rfl rfl rfl fun a E => sg <| lv E ok (y_assign rfl) fun a E => wn <| sg ?_
  refine lv E ok (y_move rfl) fun a E => lv E ok (y_nilCheck rfl) fun a E => lv E ok (y_fieldAddr fo_165_4 rfl) fun a E => lv E ok (y_load one_27 rfl (Holds.own 0 rfl rfl)) fun a E => lv E ok (y_eql rfl rfl) fun a E => lv E ok (y_move rfl) fun a E => bsplit (x0.e == 0) (fun hc7 => ?_) (fun hc7 => ?_)
  · replace hF := cond_t hc7 hF
    replace E := E.upd 10 hc7 rfl
    refine lv E ok (y_move rfl) fun a E => lv E ok (y_nilCheck rfl) fun a E => lv E ok (y_fieldAddr fo_165_2 rfl) fun a E => lv E ok (y_fieldAddr fo_163_0 rfl) fun a E => lv E ok (y_load one_9 rfl (Holds.own 0 rfl rfl)) fun a E => lv E ok (y_move rfl) fun a E => lv E ok (y_seql rfl rfl) fun a E => lv E ok (y_pickT rfl rfl) fun a E => ?_
    refine lv E ok (y_assign rfl) fun a E => wn <| wp_ret ?_
    have hret : calqueref08_parser_is_R u m0 S pb0 x0 (x0.w.text == s_1) a w := ⟨ok, E.d, ⟨rv_t E rfl, trivial⟩⟩
    obtain rfl := sj hF
    exact fin _ _ hret
  replace hF := cond_f hc7 hF
  replace E := E.upd 10 hc7 rfl
  refine ls E fun a E => ls E fun a E => ls E fun a E => ls E fun a E => ls E fun a E => ls E fun a E => ls E fun a E => lv E ok (y_pickF rfl rfl) fun a E => ?_
  refine lv E ok (y_assign rfl) fun a E => wn <| wp_ret ?_
  have hret : calqueref08_parser_is_R u m0 S pb0 x0 false a w := ⟨ok, E.d, ⟨rv_t E rfl, trivial⟩⟩
  obtain rfl := sj hF
  exact fin _ _ hret

def calqueref08_parser_letter_R (u : World) (m0 : Mem) (S : Segs) (pb0 : Nat) (x0 : Parser) (r : Bool) (a : Act) (w : World) : Prop :=
  Ok u m0 ([(pb0, Obj.cells [(Value.string (bs x0.s)), (Value.int .i64 x0.to_), (Value.string (bs x0.w.text)), (Value.int .i64 x0.w.at_), (Value.int .i64 x0.at_), (Value.int .i64 x0.e)].toArray 165 (0, 0))] :: S) w ∧ a.defers = [] ∧ RVs Tryz.prog a w [.t 2 (.bool r)]
set_option maxHeartbeats 4000000 in
set_option maxRecDepth 100000 in
theorem calqueref08_parser_letter_w {u : World} {m0 : Mem} {S : Segs} {w : World} (N : Nat) {pb0 : Nat} (x0 : Parser) (l1 : x0.s.length ≤ LIMS) (r2 : InR .i64 x0.to_) (l3 : x0.w.text.length ≤ LIMS) (r4 : InR .i64 x0.w.at_) (r5 : InR .i64 x0.at_) (r6 : InR .i64 x0.e) {r : Bool} (hF : calqueref08_parser_letter N x0 = some r) (hG : Glob u) (ok : Ok u m0 ([(pb0, Obj.cells [(Value.string (bs x0.s)), (Value.int .i64 x0.to_), (Value.string (bs x0.w.text)), (Value.int .i64 x0.w.at_), (Value.int .i64 x0.at_), (Value.int .i64 x0.e)].toArray 165 (0, 0))] :: S) w) :
    Calls Tryz.prog 112 [Value.pointer (some ⟨pb0, 0, none⟩)].toArray w fun e w' => (e = .returned (.bool r) ∧ Ok u m0 ([(pb0, Obj.cells [(Value.string (bs x0.s)), (Value.int .i64 x0.to_), (Value.string (bs x0.w.text)), (Value.int .i64 x0.w.at_), (Value.int .i64 x0.at_), (Value.int .i64 x0.e)].toArray 165 (0, 0))] :: S) w') := by
  have hb0 := ok.base
  have le_m0 := Mem.le.refl m0
  unfold calqueref08_parser_letter at hF
  have fin : ∀ a w, calqueref08_parser_letter_R u m0 S pb0 x0 r a w → bodyPost Tryz.prog Tryz.f112 (fun e w' => (e = .returned (.bool r) ∧ Ok u m0 ([(pb0, Obj.cells [(Value.string (bs x0.s)), (Value.int .i64 x0.to_), (Value.string (bs x0.w.text)), (Value.int .i64 x0.w.at_), (Value.int .i64 x0.at_), (Value.int .i64 x0.e)].toArray 165 (0, 0))] :: S) w')) .ret a w := by
    intro a w h
    obtain ⟨ok, hd, hrv⟩ := h
    exact c_ret2 [.t 2 (.bool r)] hd rfl hrv ⟨rfl, ok⟩
  refine enter Tryz.func112 rfl rfl rfl fun a E => sg <| lv E ok (y_assign rfl) fun a E => wn <| wp_seq <| wp_seq ?_
  refine c_region <| lv E ok (y_assign rfl) fun a E => wn <| wp_block ?_
  obtain ⟨o8, hL, hF⟩ := bnd hF
  refine c_loop _ (fun (s : Int) a w => Ok u m0 ([(pb0, Obj.cells [(Value.string (bs x0.s)), (Value.int .i64 x0.to_), (Value.string (bs x0.w.text)), (Value.int .i64 x0.w.at_), (Value.int .i64 x0.at_), (Value.int .i64 x0.e)].toArray 165 (0, 0))] :: S) w ∧ Env 14 a [(0, (Value.pointer (some ⟨pb0, 0, none⟩))), (3, (Value.int .i64 s))] ∧ InR .i64 s) (fun (b : (Unit ⊕ Bool)) e a w => (Sum.elim (fun b18 => e = (.exit 0) ∧ Ok u m0 ([(pb0, Obj.cells [(Value.string (bs x0.s)), (Value.int .i64 x0.to_), (Value.string (bs x0.w.text)), (Value.int .i64 x0.w.at_), (Value.int .i64 x0.at_), (Value.int .i64 x0.e)].toArray 165 (0, 0))] :: S) w ∧ Env 14 a []) (fun b19 => e = .ret ∧ calqueref08_parser_letter_R u m0 S pb0 x0 b19 a w)) b) ?_ ?_ N _ a w hL ⟨ok, E.keep [0, 3], (show InR .i64 (0) by decide)⟩
  rotate_left
  · intro e a w _ hO
    rcases o8 with o8 | o8
    rotate_left
    · replace hF := elim_r hF
      obtain ⟨rfl, hret⟩ := hO
      refine b_ret <| t_ret ?_
      obtain rfl := sj hF
      exact fin _ _ hret
    replace hF := elim_l hF
    obtain ⟨rfl, ok, E⟩ := hO
    refine b_hit <| t_norm <| sg <| lv E ok (y_assign rfl) fun a E => wn <| wp_ret ?_
    have hret : calqueref08_parser_letter_R u m0 S pb0 x0 false a w := ⟨ok, E.d, ⟨rv_t E rfl, trivial⟩⟩
    obtain rfl := sj hF
    exact fin _ _ hret
  rintro i_10 a w r ⟨ok, E, r11⟩ hF
  replace hF : calqueref08_parser_letter_b1 N x0 i_10 = some r := hF
  unfold calqueref08_parser_letter_b1 at hF
  refine wp_seq <| sg <| lv E ok (y_move rfl) fun a E => lv E ok (y_lss rfl rfl) fun a E => wn <| c_if E rfl (fun hc12 => ?_) (fun hc12 => ?_)
  rotate_left
  · replace hF := cond_f hc12 hF
    refine wp_exit <| t_exit ?_
    obtain rfl := sj hF
    exact step_o (by nofun) (sl ⟨rfl, ⟨ok, E.keep []⟩⟩)
  replace hF := cond_t hc12 hF
  refine wp_skip <| t_norm <| wp_seq <| wp_block <| sg <| lv E ok (y_move rfl) fun a E => lv E ok (y_move rfl) fun a E => ?_
  refine lv E ok (y_move rfl) fun a E => lv E ok (y_add rfl rfl (InR.inc r11 (show InR .i64 (6) by decide) hc12)) fun a E => ?_
  obtain ⟨s13, e14, hF⟩ := bnd hF
  refine lv E ok (y_sslice Tryz.underlying9 e14 rfl ⟨_, rfl⟩ ⟨_, rfl⟩) fun a E => ?_
  obtain ⟨r15, e16, hF⟩ := bnd hF
  refine l_call E go_115 rfl (calqueref08_parser_is_w N s13 (Nat.le_trans (slc_len e14) (show ([110, 105, 118, 119, 102, 116] : List UInt8).length ≤ LIMS by decide)) x0 l1 r2 l3 r4 r5 r6 e16 hG ok) rfl rfl ?_
  rintro _ w ⟨rfl, ok⟩
  refine ⟨_, rfl, fun a E => ?_⟩
  refine wn <| c_if E rfl (fun hc17 => ?_) (fun hc17 => ?_)
  rotate_left
  · replace hF := cond_f hc17 hF
    refine wp_skip <| b_norm <| t_norm <| c_region <| lv E ok (y_move rfl) fun a E => lv E ok (y_add rfl rfl (InR.inc r11 (show InR .i64 (6) by decide) hc12)) fun a E => lv E ok (y_assign rfl) fun a E => wpList_nil ?_
    obtain rfl := sj hF
    exact step_n ⟨ok, E.keep [0, 3], (InR.inc r11 (show InR .i64 (6) by decide) hc12)⟩
  replace hF := cond_t hc17 hF
  refine sg <| lv E ok (y_assign rfl) fun a E => wn <| wp_ret <| b_ret <| t_ret ?_
  have hret : calqueref08_parser_letter_R u m0 S pb0 x0 true a w := ⟨ok, E.d, ⟨rv_t E rfl, trivial⟩⟩
  obtain rfl := sj hF
  exact step_o (by nofun) (sr ⟨rfl, hret⟩)

def calqueref08_parser_fail_R (u : World) (m0 : Mem) (S : Segs) (pb0 : Nat) (x0 : Parser) (r : Parser) (a : Act) (w : World) : Prop :=
  Ok u m0 ([(pb0, Obj.cells [(Value.string (bs r.s)), (Value.int .i64 r.to_), (Value.string (bs r.w.text)), (Value.int .i64 r.w.at_), (Value.int .i64 r.at_), (Value.int .i64 r.e)].toArray 165 (0, 0))] :: S) w ∧ a.defers = [] ∧ RVs Tryz.prog a w [] ∧ r.s.length ≤ LIMS ∧ InR .i64 r.to_ ∧ r.w.text.length ≤ LIMS ∧ InR .i64 r.w.at_ ∧ InR .i64 r.at_ ∧ InR .i64 r.e
set_option maxHeartbeats 4000000 in
set_option maxRecDepth 100000 in
theorem calqueref08_parser_fail_w {u : World} {m0 : Mem} {S : Segs} {w : World} (N : Nat) (e_1 : Int) (re_1 : InR .i64 e_1) {pb0 : Nat} (x0 : Parser) (l1 : x0.s.length ≤ LIMS) (r2 : InR .i64 x0.to_) (l3 : x0.w.text.length ≤ LIMS) (r4 : InR .i64 x0.w.at_) (r5 : InR .i64 x0.at_) (r6 : InR .i64 x0.e) {r : Parser} (hF : calqueref08_parser_fail N e_1 x0 = some r) (hG : Glob u) (ok : Ok u m0 ([(pb0, Obj.cells [(Value.string (bs x0.s)), (Value.int .i64 x0.to_), (Value.string (bs x0.w.text)), (Value.int .i64 x0.w.at_), (Value.int .i64 x0.at_), (Value.int .i64 x0.e)].toArray 165 (0, 0))] :: S) w) :
    Calls Tryz.prog 113 [Value.pointer (some ⟨pb0, 0, none⟩), Value.int .i64 e_1].toArray w fun e w' => (e = .returned (.tuple [].toArray) ∧ Ok u m0 ([(pb0, Obj.cells [(Value.string (bs r.s)), (Value.int .i64 r.to_), (Value.string (bs r.w.text)), (Value.int .i64 r.w.at_), (Value.int .i64 r.at_), (Value.int .i64 r.e)].toArray 165 (0, 0))] :: S) w') ∧ r.s.length ≤ LIMS ∧ InR .i64 r.to_ ∧ r.w.text.length ≤ LIMS ∧ InR .i64 r.w.at_ ∧ InR .i64 r.at_ ∧ InR .i64 r.e := by
  have hb0 := ok.base
  have le_m0 := Mem.le.refl m0
  unfold calqueref08_parser_fail at hF
  have fin : ∀ a w, calqueref08_parser_fail_R u m0 S pb0 x0 r a w → bodyPost Tryz.prog Tryz.f113 (fun e w' => (e = .returned (.tuple [].toArray) ∧ Ok u m0 ([(pb0, Obj.cells [(Value.string (bs r.s)), (Value.int .i64 r.to_), (Value.string (bs r.w.text)), (Value.int .i64 r.w.at_), (Value.int .i64 r.at_), (Value.int .i64 r.e)].toArray 165 (0, 0))] :: S) w') ∧ r.s.length ≤ LIMS ∧ InR .i64 r.to_ ∧ r.w.text.length ≤ LIMS ∧ InR .i64 r.w.at_ ∧ InR .i64 r.at_ ∧ InR .i64 r.e) .ret a w := by
    intro a w h
    obtain ⟨ok, hd, hrv, h0, h1, h2, h3, h4, h5⟩ := h
    exact c_ret2 [] hd rfl hrv ⟨⟨rfl, ok⟩, h0, h1, h2, h3, h4, h5⟩
  refine enter Tryz.func113 rfl rfl rfl fun a E => sg <| lv E ok (y_move rfl) fun a E => lv E ok (y_nilCheck rfl) fun a E => lv E ok (y_fieldAddr fo_165_4 rfl) fun a E => lv E ok (y_load one_27 rfl (Holds.own 0 rfl rfl)) fun a E => lv E ok (y_eql rfl rfl) fun a E => ?_
  refine wn <| c_if E rfl (fun hc13 => ?_) (fun hc13 => ?_)
  rotate_left
  · replace hF := cond_f hc13 hF
    refine wp_skip ?_
    have hret : calqueref08_parser_fail_R u m0 S pb0 x0 x0 a w := ⟨ok, E.d, trivial, l1, r2, l3, r4, r5, r6⟩
    obtain rfl := sj hF
    exact fin _ _ hret
  replace hF := cond_t hc13 hF
  refine c_region <| lv E ok (y_move rfl) fun a E => lv E ok (y_move rfl) fun a E => lv E ok (y_move rfl) fun a E => lv E ok (y_nilCheck rfl) fun a E => lv E ok (y_fieldAddr fo_165_2 rfl) fun a E => lv E ok (y_fieldAddr fo_163_1 rfl) fun a E => lv E ok (y_load one_3 rfl (Holds.own 0 rfl rfl)) fun a E => ?_
  refine lv E ok (y_move rfl) fun a E => lv E ok (y_nilCheck rfl) fun a E => lv E ok (y_fieldAddr fo_165_3 rfl) fun a E => l_storeB E ok 0 rfl rfl rfl inf_3 rfl rfl ⟨rfl, trivial⟩ rfl rfl fun w ok => lv E ok (y_nilCheck rfl) fun a E => lv E ok (y_fieldAddr fo_165_4 rfl) fun a E => l_storeB E ok 0 rfl rfl rfl inf_27 rfl rfl ⟨rfl, trivial⟩ rfl rfl fun w ok => wpList_nil ?_
  have hret : calqueref08_parser_fail_R u m0 S pb0 x0 (Parser.mk x0.s x0.to_ x0.w x0.w.at_ e_1) a w := ⟨ok, E.d, trivial, l1, r2, l3, r4, r4, re_1⟩
  obtain rfl := sj hF
  exact fin _ _ hret

def calqueref08_has_R (u : World) (m0 : Mem) (S : Segs) (r : Bool) (a : Act) (w : World) : Prop :=
  Ok u m0 S w ∧ a.defers = [] ∧ RVs Tryz.prog a w [.t 4 (.bool r)]
set_option maxHeartbeats 4000000 in
set_option maxRecDepth 100000 in
theorem calqueref08_has_w {u : World} {m0 : Mem} {S : Segs} {w : World} (N : Nat) (vl_0 : Value) (l_0 : List (Int)) (hl_0 : (pL 1 (pI .i64)) m0 [vl_0] l_0) (n_1 : Int) (rn_1 : InR .i64 n_1) {r : Bool} (hF : calqueref08_has N l_0 n_1 = some r) (hG : Glob u) (ok : Ok u m0 S w) :
    Calls Tryz.prog 101 [vl_0, Value.int .i64 n_1].toArray w fun e w' => (e = .returned (.bool r) ∧ Ok u m0 S w') := by
  have hb0 := ok.base
  have le_m0 := Mem.le.refl m0
  unfold calqueref08_has at hF
  have fin : ∀ a w, calqueref08_has_R u m0 S r a w → bodyPost Tryz.prog Tryz.f101 (fun e w' => (e = .returned (.bool r) ∧ Ok u m0 S w')) .ret a w := by
    intro a w h
    obtain ⟨ok, hd, hrv⟩ := h
    exact c_ret2 [.t 4 (.bool r)] hd rfl hrv ⟨rfl, ok⟩
  refine enter Tryz.func101 rfl rfl rfl fun a E => sg <| lv E ok (y_assign rfl) fun a E => wn <| wp_seq <| wp_seq ?_
  refine c_region <| lv E ok (y_assign rfl) fun a E => wn <| wp_block ?_
  obtain ⟨o2, hL, hF⟩ := bnd hF
  refine c_loop _ (fun (s : Int) a w => Ok u m0 (S) w ∧ Env 18 a [(0, vl_0), (1, (Value.int .i64 n_1)), (5, (Value.int .i64 s))] ∧ InR .i64 s) (fun (b : (Unit ⊕ Bool)) e a w => (Sum.elim (fun b18 => e = (.exit 0) ∧ Ok u m0 (S) w ∧ Env 18 a []) (fun b19 => e = .ret ∧ calqueref08_has_R u m0 S b19 a w)) b) ?_ ?_ N _ a w hL ⟨ok, E.keep [0, 1, 5], (show InR .i64 (0) by decide)⟩
  rotate_left
  · intro e a w _ hO
    rcases o2 with o2 | o2
    rotate_left
    · replace hF := elim_r hF
      obtain ⟨rfl, hret⟩ := hO
      refine b_ret <| t_ret ?_
      obtain rfl := sj hF
      exact fin _ _ hret
    replace hF := elim_l hF
    obtain ⟨rfl, ok, E⟩ := hO
    refine b_hit <| t_norm <| sg <| lv E ok (y_assign rfl) fun a E => wn <| wp_ret ?_
    have hret : calqueref08_has_R u m0 S false a w := ⟨ok, E.d, ⟨rv_t E rfl, trivial⟩⟩
    obtain rfl := sj hF
    exact fin _ _ hret
  rintro i_4 a w r ⟨ok, E, r5⟩ hF
  replace hF : calqueref08_has_b1 N l_0 n_1 i_4 = some r := hF
  unfold calqueref08_has_b1 at hF
  refine wp_seq <| sg <| lv E ok (y_move rfl) fun a E => lv E ok (y_move rfl) fun a E => lv E ok (y_lenL sl_72 hl_0 rfl) fun a E => lv E ok (y_lss rfl rfl) fun a E => wpList_nil ?_
  refine t_norm <| c_if E rfl (fun hc6 => ?_) (fun hc6 => ?_)
  rotate_left
  · replace hF := cond_f hc6 hF
    refine wp_exit <| t_exit ?_
    obtain rfl := sj hF
    exact step_o (by nofun) (sl ⟨rfl, ⟨ok, E.keep []⟩⟩)
  replace hF := cond_t hc6 hF
  refine wp_skip <| t_norm <| wp_seq <| wp_block <| sg <| lv E ok (y_move rfl) fun a E => lv E ok (y_move rfl) fun a E => ?_
  obtain ⟨x7, e8, hF⟩ := bnd hF
  obtain ⟨b9, o10, es11, hl12, rr13, at14, yy15⟩ := idxAt sl_72 hl_0 e8 (P := Tryz.prog) (X := .tmp 12) (I := .tmp 13) (kd := .i64) (ev_of E rfl) (ev_of E rfl)
  obtain ⟨rfl, r16⟩ := rr13
  refine lv E ok (yy15 _ _) fun a E => lv E ok (y_load one_3 rfl (Holds.ro at14)) fun a E => lv E ok (y_move rfl) fun a E => lv E ok (y_eql rfl rfl) fun a E => wn <| c_if E rfl (fun hc17 => ?_) (fun hc17 => ?_)
  rotate_left
  · replace hF := cond_f hc17 hF
    refine wp_skip <| b_norm <| t_norm <| c_region <| lv E ok (y_move rfl) fun a E => lv E ok (y_add rfl rfl (InR.inc r5 (pL_InR hl_0) hc6)) fun a E => lv E ok (y_assign rfl) fun a E => wpList_nil ?_
    obtain rfl := sj hF
    exact step_n ⟨ok, E.keep [0, 1, 5], (InR.inc r5 (pL_InR hl_0) hc6)⟩
  replace hF := cond_t hc17 hF
  refine sg <| lv E ok (y_assign rfl) fun a E => wn <| wp_ret <| b_ret <| t_ret ?_
  have hret : calqueref08_has_R u m0 S true a w := ⟨ok, E.d, ⟨rv_t E rfl, trivial⟩⟩
  obtain rfl := sj hF
  exact step_o (by nofun) (sr ⟨rfl, hret⟩)

def calqueref08_Mods_R (u : World) (m0 : Mem) (S : Segs) (r : (List (Int))) (a : Act) (w : World) : Prop :=
  ∃ m1 v0, m0.le m1 ∧ Ok u m1 S w ∧ a.defers = [] ∧ RVs Tryz.prog a w [.t 2 v0] ∧ (pL 1 (pI .i64)) m1 [v0] r
set_option maxHeartbeats 4000000 in
set_option maxRecDepth 100000 in
theorem calqueref08_Mods_w {u : World} {m0 : Mem} {S : Segs} {w : World} (N : Nat) (operand_0 : Int) (roperand_0 : InR .i64 operand_0) {r : (List (Int))} (hF : calqueref08_Mods N operand_0 = some r) (hG : Glob u) (ok : Ok u m0 S w) :
    Calls Tryz.prog 102 [Value.int .i64 operand_0].toArray w fun e w' => ∃ m1 v0, e = .returned v0 ∧ m0.le m1 ∧ Ok u m1 S w' ∧ (pL 1 (pI .i64)) m1 [v0] r := by
  have le_m0 := Mem.le.refl m0
  unfold calqueref08_Mods at hF
  have fin : ∀ a w, calqueref08_Mods_R u m0 S r a w → bodyPost Tryz.prog Tryz.f102 (fun e w' => ∃ m1 v0, e = .returned v0 ∧ m0.le m1 ∧ Ok u m1 S w' ∧ (pL 1 (pI .i64)) m1 [v0] r) .ret a w := by
    intro a w h
    obtain ⟨m1, v0, hle, ok, hd, hrv, h0⟩ := h
    exact c_ret2 [.t 2 v0] hd rfl hrv ⟨m1, v0, rfl, hle, ok, h0⟩
  refine enter Tryz.func102 rfl rfl rfl fun a E => sg <| lv E ok (y_assign rfl) fun a E => wn <| wp_seq <| wp_seq ?_
  refine c_region <| lv E ok (y_move rfl) fun a E => wn <| wp_block <| wp_seq <| sg ?_
  refine lv E ok (y_eql rfl rfl) fun a E => lv E ok (y_assign rfl) fun a E => wn ?_
  obtain ⟨o1, hJ, hF⟩ := bnd hF
  refine c_mono (Q' := fun e a w => e = .normal ∧ Ok u m0 (S) w ∧ Env 12 a [(3, (Value.int .i64 operand_0)), (4, (Value.bool o1))]) ?_ ?_
  · replace hF := hJ
    clear hJ
    refine c_if E rfl (fun hc2 => ?_) (fun hc2 => ?_)
    · replace hF := cond_t hc2 hF
      refine wp_skip ?_
      obtain rfl := sj hF
      exact ⟨rfl, ⟨ok, E.keep [3, 4]⟩⟩
    replace hF := cond_f hc2 hF
    refine c_region <| lv E ok (y_eql rfl rfl) fun a E => lv E ok (y_assign rfl) fun a E => wpList_nil ?_
    obtain rfl := sj hF
    exact ⟨rfl, ⟨ok, E.keep [3, 4]⟩⟩
  clear hJ
  intro e a w hO
  obtain ⟨rfl, ok, E⟩ := hO
  refine t_norm <| c_if E rfl (fun hc3 => ?_) (fun hc3 => ?_)
  · replace hF := cond_t hc3 hF
    refine sg <| l_slit (R := (pI .i64)) (xo := [.const (Value.int .i64 2), .const (Value.int .i64 3), .const (Value.int .i64 4), .const (Value.int .i64 5), .const (Value.int .i64 6), .const (Value.int .i64 10), .const (Value.int .i64 20), .const (Value.int .i64 25), .const (Value.int .i64 50), .const (Value.int .i64 100)]) (xs := ([2, 3, 4, 5, 6, 10, 20, 25, 50, 100] : List (Int))) E ok sl_72 zero_3 rfl ⟨⟨_, rfl, rfl, (pI_mk (show InR .i64 (2) by decide))⟩, ⟨_, rfl, rfl, (pI_mk (show InR .i64 (3) by decide))⟩, ⟨_, rfl, rfl, (pI_mk (show InR .i64 (4) by decide))⟩, ⟨_, rfl, rfl, (pI_mk (show InR .i64 (5) by decide))⟩, ⟨_, rfl, rfl, (pI_mk (show InR .i64 (6) by decide))⟩, ⟨_, rfl, rfl, (pI_mk (show InR .i64 (10) by decide))⟩, ⟨_, rfl, rfl, (pI_mk (show InR .i64 (20) by decide))⟩, ⟨_, rfl, rfl, (pI_mk (show InR .i64 (25) by decide))⟩, ⟨_, rfl, rfl, (pI_mk (show InR .i64 (50) by decide))⟩, ⟨_, rfl, rfl, (pI_mk (show InR .i64 (100) by decide))⟩, trivial⟩ rfl rfl rfl rfl fun c4 M5 a w E ok h6 => lv E ok (y_assign rfl) fun a E => wn <| wp_ret <| b_ret ?_
    refine t_ret ?_
    obtain ⟨m7, hle, ok, hfz⟩ := (ok.frs 0 rfl).freeze
    have h8 := ORow.froz (mI .i64) h6 hle hfz (by decide)
    have le_m0 := le_m0.trans hle
    have hret : calqueref08_Mods_R u m0 S ([2, 3, 4, 5, 6, 10, 20, 25, 50, 100] : List (Int)) a w := ⟨m7, c4, le_m0, ok, E.d, ⟨rv_t E rfl, trivial⟩, h8⟩
    obtain rfl := sj hF
    exact fin _ _ hret
  replace hF := cond_f hc3 hF
  refine wp_seq <| sg <| lv E ok (y_eql rfl rfl) fun a E => lv E ok (y_assign rfl) fun a E => wn ?_
  obtain ⟨o9, hJ, hF⟩ := bnd hF
  refine c_mono (Q' := fun e a w => e = .normal ∧ Ok u m0 (S) w ∧ Env 12 a [(8, (Value.bool o9))]) ?_ ?_
  · replace hF := hJ
    clear hJ
    refine c_if E rfl (fun hc10 => ?_) (fun hc10 => ?_)
    · replace hF := cond_t hc10 hF
      refine wp_skip ?_
      obtain rfl := sj hF
      exact ⟨rfl, ⟨ok, E.keep [8]⟩⟩
    replace hF := cond_f hc10 hF
    refine c_region <| lv E ok (y_eql rfl rfl) fun a E => lv E ok (y_assign rfl) fun a E => wpList_nil ?_
    obtain rfl := sj hF
    exact ⟨rfl, ⟨ok, E.keep [8]⟩⟩
  clear hJ
  intro e a w hO
  obtain ⟨rfl, ok, E⟩ := hO
  refine t_norm <| c_if E rfl (fun hc11 => ?_) (fun hc11 => ?_)
  rotate_left
  · replace hF := cond_f hc11 hF
    refine wp_skip <| b_norm <| t_norm <| sg <| lv E ok (y_assign rfl) fun a E => wn ?_
    refine wp_ret ?_
    have hret : calqueref08_Mods_R u m0 S ([]) a w := ⟨m0, (.slice none 0 0), le_m0, ok, E.d, ⟨rv_t E rfl, trivial⟩, pL_nil⟩
    obtain rfl := sj hF
    exact fin _ _ hret
  replace hF := cond_t hc11 hF
  refine sg <| l_slit (R := (pI .i64)) (xo := [.const (Value.int .i64 10), .const (Value.int .i64 100)]) (xs := ([10, 100] : List (Int))) E ok sl_72 zero_3 rfl ⟨⟨_, rfl, rfl, (pI_mk (show InR .i64 (10) by decide))⟩, ⟨_, rfl, rfl, (pI_mk (show InR .i64 (100) by decide))⟩, trivial⟩ rfl rfl rfl rfl fun c12 M13 a w E ok h14 => lv E ok (y_assign rfl) fun a E => wn <| wp_ret <| b_ret ?_
  refine t_ret ?_
  obtain ⟨m15, hle, ok, hfz⟩ := (ok.frs 0 rfl).freeze
  have h16 := ORow.froz (mI .i64) h14 hle hfz (by decide)
  have le_m0 := le_m0.trans hle
  have hret : calqueref08_Mods_R u m0 S ([10, 100] : List (Int)) a w := ⟨m15, c12, le_m0, ok, E.d, ⟨rv_t E rfl, trivial⟩, h16⟩
  obtain rfl := sj hF
  exact fin _ _ hret

def calqueref08_Bound_R (u : World) (m0 : Mem) (S : Segs) (r : Int) (a : Act) (w : World) : Prop :=
  Ok u m0 S w ∧ a.defers = [] ∧ RVs Tryz.prog a w [.t 2 (.int .i64 r)] ∧ InR .i64 r
set_option maxHeartbeats 4000000 in
set_option maxRecDepth 100000 in
theorem calqueref08_Bound_w {u : World} {m0 : Mem} {S : Segs} {w : World} (N : Nat) (operand_0 : Int) (roperand_0 : InR .i64 operand_0) {r : Int} (hF : calqueref08_Bound N operand_0 = some r) (hG : Glob u) (ok : Ok u m0 S w) :
    Calls Tryz.prog 103 [Value.int .i64 operand_0].toArray w fun e w' => (e = .returned (.int .i64 r) ∧ Ok u m0 S w') ∧ InR .i64 r := by
  have hb0 := ok.base
  have le_m0 := Mem.le.refl m0
  unfold calqueref08_Bound at hF
  have fin : ∀ a w, calqueref08_Bound_R u m0 S r a w → bodyPost Tryz.prog Tryz.f103 (fun e w' => (e = .returned (.int .i64 r) ∧ Ok u m0 S w') ∧ InR .i64 r) .ret a w := by
    intro a w h
    obtain ⟨ok, hd, hrv, h0⟩ := h
    exact c_ret2 [.t 2 (.int .i64 r)] hd rfl hrv ⟨⟨rfl, ok⟩, h0⟩
  refine enter Tryz.func103 rfl rfl rfl fun a E => sg <| lv E ok (y_assign rfl) fun a E => wn <| wp_seq <| wp_seq ?_
  refine c_region <| lv E ok (y_move rfl) fun a E => lv E ok (y_eql rfl rfl) fun a E => lv E ok (y_move rfl) fun a E => bsplit (operand_0 == 3) (fun hc1 => ?_) (fun hc1 => ?_)
  · replace hF := cond_t hc1 hF
    replace E := E.upd 5 hc1 rfl
    refine ls E fun a E => ls E fun a E => lv E ok (y_pickT rfl rfl) fun a E => wn <| c_if E rfl (fun _ => ?_) (fun h => by cases h)
    refine sg <| lv E ok (y_assign rfl) fun a E => wn <| wp_ret <| t_ret ?_
    have hret : calqueref08_Bound_R u m0 S 6 a w := ⟨ok, E.d, ⟨rv_t E rfl, trivial⟩, (show InR .i64 (6) by decide)⟩
    obtain rfl := sj hF
    exact fin _ _ hret
  replace hF := cond_f hc1 hF
  replace E := E.upd 5 hc1 rfl
  refine lv E ok (y_move rfl) fun a E => lv E ok (y_eql rfl rfl) fun a E => lv E ok (y_pickF rfl rfl) fun a E => wn <| c_if E rfl (fun hc2 => ?_) (fun hc2 => ?_)
  · replace hF := cond_t hc2 hF
    refine sg <| lv E ok (y_assign rfl) fun a E => wn <| wp_ret <| t_ret ?_
    have hret : calqueref08_Bound_R u m0 S 6 a w := ⟨ok, E.d, ⟨rv_t E rfl, trivial⟩, (show InR .i64 (6) by decide)⟩
    obtain rfl := sj hF
    exact fin _ _ hret
  replace hF := cond_f hc2 hF
  refine wp_skip <| t_norm <| sg <| lv E ok (y_assign rfl) fun a E => wn <| wp_ret ?_
  have hret : calqueref08_Bound_R u m0 S 100 a w := ⟨ok, E.d, ⟨rv_t E rfl, trivial⟩, (show InR .i64 (100) by decide)⟩
  obtain rfl := sj hF
  exact fin _ _ hret

def calqueref07_Value_R (u : World) (m0 : Mem) (S : Segs) (r : Int) (a : Act) (w : World) : Prop :=
  Ok u m0 S w ∧ a.defers = [] ∧ RVs Tryz.prog a w [.t 2 (.int .i64 r)] ∧ InR .i64 r
set_option maxHeartbeats 4000000 in
set_option maxRecDepth 100000 in
theorem calqueref07_Value_w {u : World} {m0 : Mem} {S : Segs} {w : World} (N : Nat) (s_0 : List UInt8) (ls_0 : s_0.length ≤ LIMS) {r : Int} (hF : calqueref07_Value N s_0 = some r) (hG : Glob u) (ok : Ok u m0 S w) :
    Calls Tryz.prog 146 [Value.string (bs s_0)].toArray w fun e w' => (e = .returned (.int .i64 r) ∧ Ok u m0 S w') ∧ InR .i64 r := by
  have hb0 := ok.base
  have le_m0 := Mem.le.refl m0
  unfold calqueref07_Value at hF
  have fin : ∀ a w, calqueref07_Value_R u m0 S r a w → bodyPost Tryz.prog Tryz.f146 (fun e w' => (e = .returned (.int .i64 r) ∧ Ok u m0 S w') ∧ InR .i64 r) .ret a w := by
    intro a w h
    obtain ⟨ok, hd, hrv, h0⟩ := h
    exact c_ret2 [.t 2 (.int .i64 r)] hd rfl hrv ⟨⟨rfl, ok⟩, h0⟩
  refine enter Tryz.func146 rfl rfl rfl fun a E => sg <| lv E ok (y_assign rfl) fun a E => wn <| sg ?_
  refine lv E ok (y_assign rfl) fun a E => wn <| wp_seq <| sg <| lv E ok (y_assign rfl) fun a E => wpList_nil ?_
  refine t_norm <| wp_block ?_
  obtain ⟨o3, hL, hF⟩ := bnd hF
  refine c_loop _ (fun (s : Int × Int) a w => Ok u m0 (S) w ∧ Env 20 a [(0, (Value.string (bs s_0))), (3, (Value.int .i64 s.1)), (4, (Value.int .i64 s.2))] ∧ InR .i64 s.1 ∧ InR .i64 s.2) (fun (b : Int) e a w => e = (.exit 0) ∧ Ok u m0 (S) w ∧ Env 20 a [(3, (Value.int .i64 b))] ∧ InR .i64 b) ?_ ?_ N _ a w hL ⟨ok, E.keep [0, 3, 4], (show InR .i64 (0) by decide), (show InR .i64 (0) by decide)⟩
  rotate_left
  · intro e a w _ hO
    obtain ⟨rfl, ok, E, r13⟩ := hO
    refine b_hit <| t_norm <| sg <| lv E ok (y_move rfl) fun a E => lv E ok (y_assign rfl) fun a E => wn ?_
    refine wp_ret ?_
    have hret : calqueref07_Value_R u m0 S o3 a w := ⟨ok, E.d, ⟨rv_t E rfl, trivial⟩, r13⟩
    obtain rfl := sj hF
    exact fin _ _ hret
  rintro ⟨n_6, i_7⟩ a w r ⟨ok, E, r8, r9⟩ hF
  replace hF : calqueref07_Value_b1 N s_0 n_6 i_7 = some r := hF
  unfold calqueref07_Value_b1 at hF
  refine wp_seq <| sg <| lv E ok (y_move rfl) fun a E => lv E ok (y_move rfl) fun a E => lv E ok (y_slen Tryz.underlying9 rfl) fun a E => lv E ok (y_lss rfl rfl) fun a E => wpList_nil ?_
  refine t_norm <| c_if E rfl (fun hc10 => ?_) (fun hc10 => ?_)
  rotate_left
  · replace hF := cond_f hc10 hF
    refine wp_exit <| t_exit ?_
    obtain rfl := sj hF
    exact step_o (by nofun) (⟨rfl, ⟨ok, E.keep [3], r8⟩⟩)
  replace hF := cond_t hc10 hF
  refine wp_skip <| t_norm <| wp_seq <| wp_block <| c_region <| lv E ok (y_move rfl) fun a E => lv E ok (y_mulw rfl rfl) fun a E => lv E ok (y_move rfl) fun a E => ?_
  refine lv E ok (y_move rfl) fun a E => ?_
  obtain ⟨c11, e12, hF⟩ := bnd hF
  refine lv E ok (y_index Tryz.underlying9 rfl rfl e12) fun a E => lv E ok (y_subw rfl rfl) fun a E => lv E ok (y_convw Tryz.underlying5 Tryz.underlying3 rfl (InR.wrap _ _) (by decide)) fun a E => lv E ok (y_addw rfl rfl) fun a E => lv E ok (y_assign rfl) fun a E => wpList_nil <| b_norm <| t_norm ?_
  refine c_region <| lv E ok (y_move rfl) fun a E => lv E ok (y_add rfl rfl (InR.inc r9 (InR.len ls_0) hc10)) fun a E => lv E ok (y_assign rfl) fun a E => wpList_nil ?_
  obtain rfl := sj hF
  exact step_n ⟨ok, E.keep [0, 3, 4], (InR.wrap _ _), (InR.inc r9 (InR.len ls_0) hc10)⟩

def calqueref08_parser_number_R (u : World) (m0 : Mem) (S : Segs) (pb0 : Nat) (x0 : Parser) (r : Int × Parser) (a : Act) (w : World) : Prop :=
  Ok u m0 ([(pb0, Obj.cells [(Value.string (bs r.2.s)), (Value.int .i64 r.2.to_), (Value.string (bs r.2.w.text)), (Value.int .i64 r.2.w.at_), (Value.int .i64 r.2.at_), (Value.int .i64 r.2.e)].toArray 165 (0, 0))] :: S) w ∧ a.defers = [] ∧ RVs Tryz.prog a w [.t 2 (.int .i64 r.1)] ∧ InR .i64 r.1 ∧ r.2.s.length ≤ LIMS ∧ InR .i64 r.2.to_ ∧ r.2.w.text.length ≤ LIMS ∧ InR .i64 r.2.w.at_ ∧ InR .i64 r.2.at_ ∧ InR .i64 r.2.e
set_option maxHeartbeats 4000000 in
set_option maxRecDepth 100000 in
theorem calqueref08_parser_number_w {u : World} {m0 : Mem} {S : Segs} {w : World} (N : Nat) {pb0 : Nat} (x0 : Parser) (l1 : x0.s.length ≤ LIMS) (r2 : InR .i64 x0.to_) (l3 : x0.w.text.length ≤ LIMS) (r4 : InR .i64 x0.w.at_) (r5 : InR .i64 x0.at_) (r6 : InR .i64 x0.e) {r : Int × Parser} (hF : calqueref08_parser_number N x0 = some r) (hG : Glob u) (ok : Ok u m0 ([(pb0, Obj.cells [(Value.string (bs x0.s)), (Value.int .i64 x0.to_), (Value.string (bs x0.w.text)), (Value.int .i64 x0.w.at_), (Value.int .i64 x0.at_), (Value.int .i64 x0.e)].toArray 165 (0, 0))] :: S) w) :
    Calls Tryz.prog 143 [Value.pointer (some ⟨pb0, 0, none⟩)].toArray w fun e w' => (e = .returned (.int .i64 r.1) ∧ Ok u m0 ([(pb0, Obj.cells [(Value.string (bs r.2.s)), (Value.int .i64 r.2.to_), (Value.string (bs r.2.w.text)), (Value.int .i64 r.2.w.at_), (Value.int .i64 r.2.at_), (Value.int .i64 r.2.e)].toArray 165 (0, 0))] :: S) w') ∧ InR .i64 r.1 ∧ r.2.s.length ≤ LIMS ∧ InR .i64 r.2.to_ ∧ r.2.w.text.length ≤ LIMS ∧ InR .i64 r.2.w.at_ ∧ InR .i64 r.2.at_ ∧ InR .i64 r.2.e := by
  have hb0 := ok.base
  have le_m0 := Mem.le.refl m0
  unfold calqueref08_parser_number at hF
  have fin : ∀ a w, calqueref08_parser_number_R u m0 S pb0 x0 r a w → bodyPost Tryz.prog Tryz.f143 (fun e w' => (e = .returned (.int .i64 r.1) ∧ Ok u m0 ([(pb0, Obj.cells [(Value.string (bs r.2.s)), (Value.int .i64 r.2.to_), (Value.string (bs r.2.w.text)), (Value.int .i64 r.2.w.at_), (Value.int .i64 r.2.at_), (Value.int .i64 r.2.e)].toArray 165 (0, 0))] :: S) w') ∧ InR .i64 r.1 ∧ r.2.s.length ≤ LIMS ∧ InR .i64 r.2.to_ ∧ r.2.w.text.length ≤ LIMS ∧ InR .i64 r.2.w.at_ ∧ InR .i64 r.2.at_ ∧ InR .i64 r.2.e) .ret a w := by
    intro a w h
    obtain ⟨ok, hd, hrv, h0, h1, h2, h3, h4, h5, h6⟩ := h
    exact c_ret2 [.t 2 (.int .i64 r.1)] hd rfl hrv ⟨⟨rfl, ok⟩, h0, h1, h2, h3, h4, h5, h6⟩
  refine enter Tryz.func143 rfl rfl rfl fun a E => sg <| lv E ok (y_assign rfl) fun a E => wn <| sg ?_
  refine lv E ok (y_move rfl) fun a E => lv E ok (y_nilCheck rfl) fun a E => lv E ok (y_fieldAddr fo_165_2 rfl) fun a E => lv E ok (y_fieldAddr fo_163_0 rfl) fun a E => lv E ok (y_load one_9 rfl (Holds.own 0 rfl rfl)) fun a E => lv E ok (y_assign rfl) fun a E => wn ?_
  refine wp_seq <| sg <| lv E ok (y_move rfl) fun a E => lv E ok (y_seql rfl rfl) fun a E => lv E ok (y_move rfl) fun a E => bsplit (x0.w.text == ([])) (fun hc13 => ?_) (fun hc13 => ?_)
  · replace hF := cond_t hc13 hF
    replace E := E.upd 11 hc13 rfl
    refine ls E fun a E => ls E fun a E => ls E fun a E => lv E ok (y_pickT rfl rfl) fun a E => lv E ok (y_move rfl) fun a E => ls E fun a E => ls E fun a E => ls E fun a E => ?_
    refine lv E ok (y_pickT rfl rfl) fun a E => lv E ok (y_move rfl) fun a E => ls E fun a E => ls E fun a E => ls E fun a E => lv E ok (y_pickT rfl rfl) fun a E => lv E ok (y_move rfl) fun a E => ls E fun a E => ?_
    refine ls E fun a E => ls E fun a E => ls E fun a E => ls E fun a E => ls E fun a E => ls E fun a E => ls E fun a E => lv E ok (y_pickT rfl rfl) fun a E => ?_
    refine wn <| c_if E rfl (fun _ => ?_) (fun h => by cases h)
    refine sg <| lv E ok (y_move rfl) fun a E => ?_
    obtain ⟨r14, e15, hF⟩ := bnd hF
    refine l_call E go_113 rfl (calqueref08_parser_fail_w N 3 (show InR .i64 (3) by decide) x0 l1 r2 l3 r4 r5 r6 e15 hG ok) rfl rfl ?_
    rintro _ w ⟨⟨rfl, ok⟩, l16, r17, l18, r19, r20, r21⟩
    refine ⟨_, rfl, fun a E => ?_⟩
    refine wn <| sg <| lv E ok (y_assign rfl) fun a E => wn <| wp_ret ?_
    refine t_ret ?_
    have hret : calqueref08_parser_number_R u m0 S pb0 x0 (0, r14) a w := ⟨ok, E.d, ⟨rv_t E rfl, trivial⟩, (show InR .i64 (0) by decide), l16, r17, l18, r19, r20, r21⟩
    obtain rfl := sj hF
    exact fin _ _ hret
  replace hF := cond_f hc13 hF
  replace E := E.upd 11 hc13 rfl
  refine lv E ok (y_move rfl) fun a E => ?_
  obtain ⟨c22, e23, hF⟩ := bnd hF
  refine lv E ok (y_index Tryz.underlying9 rfl rfl e23) fun a E => lv E ok (y_lss rfl rfl) fun a E => lv E ok (y_pickF rfl rfl) fun a E => lv E ok (y_move rfl) fun a E => bsplit (decide ((c22.toNat : Int) < 48)) (fun hc24 => ?_) (fun hc24 => ?_)
  · replace hF := cond_t hc24 hF
    replace E := E.upd 16 hc24 rfl
    refine ls E fun a E => ls E fun a E => ls E fun a E => lv E ok (y_pickT rfl rfl) fun a E => lv E ok (y_move rfl) fun a E => ls E fun a E => ls E fun a E => ls E fun a E => ?_
    refine lv E ok (y_pickT rfl rfl) fun a E => lv E ok (y_move rfl) fun a E => ls E fun a E => ls E fun a E => ls E fun a E => ls E fun a E => ls E fun a E => ls E fun a E => ?_
    refine ls E fun a E => ls E fun a E => lv E ok (y_pickT rfl rfl) fun a E => wn <| c_if E rfl (fun _ => ?_) (fun h => by cases h)
    refine sg <| lv E ok (y_move rfl) fun a E => ?_
    obtain ⟨r25, e26, hF⟩ := bnd hF
    refine l_call E go_113 rfl (calqueref08_parser_fail_w N 3 (show InR .i64 (3) by decide) x0 l1 r2 l3 r4 r5 r6 e26 hG ok) rfl rfl ?_
    rintro _ w ⟨⟨rfl, ok⟩, l27, r28, l29, r30, r31, r32⟩
    refine ⟨_, rfl, fun a E => ?_⟩
    refine wn <| sg <| lv E ok (y_assign rfl) fun a E => wn <| wp_ret ?_
    refine t_ret ?_
    have hret : calqueref08_parser_number_R u m0 S pb0 x0 (0, r25) a w := ⟨ok, E.d, ⟨rv_t E rfl, trivial⟩, (show InR .i64 (0) by decide), l27, r28, l29, r30, r31, r32⟩
    obtain rfl := sj hF
    exact fin _ _ hret
  replace hF := cond_f hc24 hF
  replace E := E.upd 16 hc24 rfl
  refine lv E ok (y_move rfl) fun a E => ?_
  obtain ⟨c33, e34, hF⟩ := bnd hF
  refine lv E ok (y_index Tryz.underlying9 rfl rfl e34) fun a E => lv E ok (y_gtr rfl rfl) fun a E => lv E ok (y_pickF rfl rfl) fun a E => lv E ok (y_move rfl) fun a E => bsplit (decide ((c33.toNat : Int) > 57)) (fun hc35 => ?_) (fun hc35 => ?_)
  · replace hF := cond_t hc35 hF
    replace E := E.upd 21 hc35 rfl
    refine ls E fun a E => ls E fun a E => ls E fun a E => lv E ok (y_pickT rfl rfl) fun a E => lv E ok (y_move rfl) fun a E => ls E fun a E => ls E fun a E => ls E fun a E => ?_
    refine ls E fun a E => ls E fun a E => ls E fun a E => ls E fun a E => ls E fun a E => lv E ok (y_pickT rfl rfl) fun a E => wn ?_
    refine c_if E rfl (fun _ => ?_) (fun h => by cases h)
    refine sg <| lv E ok (y_move rfl) fun a E => ?_
    obtain ⟨r36, e37, hF⟩ := bnd hF
    refine l_call E go_113 rfl (calqueref08_parser_fail_w N 3 (show InR .i64 (3) by decide) x0 l1 r2 l3 r4 r5 r6 e37 hG ok) rfl rfl ?_
    rintro _ w ⟨⟨rfl, ok⟩, l38, r39, l40, r41, r42, r43⟩
    refine ⟨_, rfl, fun a E => ?_⟩
    refine wn <| sg <| lv E ok (y_assign rfl) fun a E => wn <| wp_ret ?_
    refine t_ret ?_
    have hret : calqueref08_parser_number_R u m0 S pb0 x0 (0, r36) a w := ⟨ok, E.d, ⟨rv_t E rfl, trivial⟩, (show InR .i64 (0) by decide), l38, r39, l40, r41, r42, r43⟩
    obtain rfl := sj hF
    exact fin _ _ hret
  replace hF := cond_f hc35 hF
  replace E := E.upd 21 hc35 rfl
  refine lv E ok (y_move rfl) fun a E => lv E ok (y_slen Tryz.underlying9 rfl) fun a E => lv E ok (y_gtr rfl rfl) fun a E => lv E ok (y_pickF rfl rfl) fun a E => lv E ok (y_move rfl) fun a E => bsplit (decide ((x0.w.text.length : Int) > 3)) (fun hc44 => ?_) (fun hc44 => ?_)
  · replace hF := cond_t hc44 hF
    replace E := E.upd 26 hc44 rfl
    refine ls E fun a E => ls E fun a E => ls E fun a E => ls E fun a E => ls E fun a E => ls E fun a E => ls E fun a E => ls E fun a E => ?_
    refine lv E ok (y_pickT rfl rfl) fun a E => wn <| c_if E rfl (fun _ => ?_) (fun h => by cases h)
    refine sg <| lv E ok (y_move rfl) fun a E => ?_
    obtain ⟨r45, e46, hF⟩ := bnd hF
    refine l_call E go_113 rfl (calqueref08_parser_fail_w N 3 (show InR .i64 (3) by decide) x0 l1 r2 l3 r4 r5 r6 e46 hG ok) rfl rfl ?_
    rintro _ w ⟨⟨rfl, ok⟩, l47, r48, l49, r50, r51, r52⟩
    refine ⟨_, rfl, fun a E => ?_⟩
    refine wn <| sg <| lv E ok (y_assign rfl) fun a E => wn <| wp_ret ?_
    refine t_ret ?_
    have hret : calqueref08_parser_number_R u m0 S pb0 x0 (0, r45) a w := ⟨ok, E.d, ⟨rv_t E rfl, trivial⟩, (show InR .i64 (0) by decide), l47, r48, l49, r50, r51, r52⟩
    obtain rfl := sj hF
    exact fin _ _ hret
  replace hF := cond_f hc44 hF
  replace E := E.upd 26 hc44 rfl
  refine lv E ok (y_move rfl) fun a E => lv E ok (y_slen Tryz.underlying9 rfl) fun a E => lv E ok (y_gtr rfl rfl) fun a E => lv E ok (y_move rfl) fun a E => bsplit (decide ((x0.w.text.length : Int) > 1)) (fun hc53 => ?_) (fun hc53 => ?_)
  rotate_left
  · replace hF := cond_f hc53 hF
    replace E := E.upd 30 hc53 rfl
    refine ls E fun a E => ls E fun a E => ls E fun a E => lv E ok (y_pickF rfl rfl) fun a E => lv E ok (y_pickF rfl rfl) fun a E => wn <| c_if E rfl (fun h => by cases h) (fun _ => ?_)
    refine wp_skip <| t_norm <| sg <| lv E ok (y_move rfl) fun a E => ?_
    obtain ⟨r68, e69, hF⟩ := bnd hF
    refine l_call E go_146 rfl (calqueref07_Value_w N x0.w.text l3 e69 hG ok) rfl rfl ?_
    rintro _ w ⟨⟨rfl, ok⟩, r70⟩
    refine ⟨_, rfl, fun a E => ?_⟩
    refine lv E ok (y_assign rfl) fun a E => wn <| wp_ret ?_
    have hret : calqueref08_parser_number_R u m0 S pb0 x0 (r68, x0) a w := ⟨ok, E.d, ⟨rv_t E rfl, trivial⟩, r70, l1, r2, l3, r4, r5, r6⟩
    obtain rfl := sj hF
    exact fin _ _ hret
  replace hF := cond_t hc53 hF
  replace E := E.upd 30 hc53 rfl
  refine lv E ok (y_move rfl) fun a E => ?_
  obtain ⟨c54, e55, hF⟩ := bnd hF
  refine lv E ok (y_index Tryz.underlying9 rfl rfl e55) fun a E => lv E ok (y_eql rfl rfl) fun a E => lv E ok (y_pickT rfl rfl) fun a E => lv E ok (y_pickF rfl rfl) fun a E => wn <| c_if E rfl (fun hc56 => ?_) (fun hc56 => ?_)
  rotate_left
  · replace hF := cond_f hc56 hF
    refine wp_skip <| t_norm <| sg <| lv E ok (y_move rfl) fun a E => ?_
    obtain ⟨r65, e66, hF⟩ := bnd hF
    refine l_call E go_146 rfl (calqueref07_Value_w N x0.w.text l3 e66 hG ok) rfl rfl ?_
    rintro _ w ⟨⟨rfl, ok⟩, r67⟩
    refine ⟨_, rfl, fun a E => ?_⟩
    refine lv E ok (y_assign rfl) fun a E => wn <| wp_ret ?_
    have hret : calqueref08_parser_number_R u m0 S pb0 x0 (r65, x0) a w := ⟨ok, E.d, ⟨rv_t E rfl, trivial⟩, r67, l1, r2, l3, r4, r5, r6⟩
    obtain rfl := sj hF
    exact fin _ _ hret
  replace hF := cond_t hc56 hF
  refine sg <| lv E ok (y_move rfl) fun a E => ?_
  obtain ⟨r57, e58, hF⟩ := bnd hF
  refine l_call E go_113 rfl (calqueref08_parser_fail_w N 3 (show InR .i64 (3) by decide) x0 l1 r2 l3 r4 r5 r6 e58 hG ok) rfl rfl ?_
  rintro _ w ⟨⟨rfl, ok⟩, l59, r60, l61, r62, r63, r64⟩
  refine ⟨_, rfl, fun a E => ?_⟩
  refine wn <| sg <| lv E ok (y_assign rfl) fun a E => wn <| wp_ret ?_
  refine t_ret ?_
  have hret : calqueref08_parser_number_R u m0 S pb0 x0 (0, r57) a w := ⟨ok, E.d, ⟨rv_t E rfl, trivial⟩, (show InR .i64 (0) by decide), l59, r60, l61, r62, r63, r64⟩
  obtain rfl := sj hF
  exact fin _ _ hret

def calqueref08_parser_span_R (u : World) (m0 : Mem) (S : Segs) (pb0 : Nat) (x0 : Parser) (r : Span × Parser) (a : Act) (w : World) : Prop :=
  ∃ m1 v0, m0.le m1 ∧ Ok u m1 ([(pb0, Obj.cells [(Value.string (bs r.2.s)), (Value.int .i64 r.2.to_), (Value.string (bs r.2.w.text)), (Value.int .i64 r.2.w.at_), (Value.int .i64 r.2.at_), (Value.int .i64 r.2.e)].toArray 165 (0, 0))] :: S) w ∧ a.defers = [] ∧ RVs Tryz.prog a w [.c 4 126 (.agg v0.toArray)] ∧ pSpan m1 v0 r.1 ∧ r.2.s.length ≤ LIMS ∧ InR .i64 r.2.to_ ∧ r.2.w.text.length ≤ LIMS ∧ InR .i64 r.2.w.at_ ∧ InR .i64 r.2.at_ ∧ InR .i64 r.2.e
set_option maxHeartbeats 4000000 in
set_option maxRecDepth 100000 in
theorem calqueref08_parser_span_w {u : World} {m0 : Mem} {S : Segs} {w : World} (N : Nat) (operand_1 : Int) (roperand_1 : InR .i64 operand_1) {pb0 : Nat} (x0 : Parser) (l1 : x0.s.length ≤ LIMS) (r2 : InR .i64 x0.to_) (l3 : x0.w.text.length ≤ LIMS) (r4 : InR .i64 x0.w.at_) (r5 : InR .i64 x0.at_) (r6 : InR .i64 x0.e) {r : Span × Parser} (hF : calqueref08_parser_span N operand_1 x0 = some r) (hG : Glob u) (ok : Ok u m0 ([(pb0, Obj.cells [(Value.string (bs x0.s)), (Value.int .i64 x0.to_), (Value.string (bs x0.w.text)), (Value.int .i64 x0.w.at_), (Value.int .i64 x0.at_), (Value.int .i64 x0.e)].toArray 165 (0, 0))] :: S) w) :
    Calls Tryz.prog 144 [Value.pointer (some ⟨pb0, 0, none⟩), Value.int .i64 operand_1].toArray w fun e w' => ∃ m1 v0, e = .returned (.agg v0.toArray) ∧ m0.le m1 ∧ Ok u m1 ([(pb0, Obj.cells [(Value.string (bs r.2.s)), (Value.int .i64 r.2.to_), (Value.string (bs r.2.w.text)), (Value.int .i64 r.2.w.at_), (Value.int .i64 r.2.at_), (Value.int .i64 r.2.e)].toArray 165 (0, 0))] :: S) w' ∧ pSpan m1 v0 r.1 ∧ r.2.s.length ≤ LIMS ∧ InR .i64 r.2.to_ ∧ r.2.w.text.length ≤ LIMS ∧ InR .i64 r.2.w.at_ ∧ InR .i64 r.2.at_ ∧ InR .i64 r.2.e := by
  have le_m0 := Mem.le.refl m0
  unfold calqueref08_parser_span at hF
  have fin : ∀ a w, calqueref08_parser_span_R u m0 S pb0 x0 r a w → bodyPost Tryz.prog Tryz.f144 (fun e w' => ∃ m1 v0, e = .returned (.agg v0.toArray) ∧ m0.le m1 ∧ Ok u m1 ([(pb0, Obj.cells [(Value.string (bs r.2.s)), (Value.int .i64 r.2.to_), (Value.string (bs r.2.w.text)), (Value.int .i64 r.2.w.at_), (Value.int .i64 r.2.at_), (Value.int .i64 r.2.e)].toArray 165 (0, 0))] :: S) w' ∧ pSpan m1 v0 r.1 ∧ r.2.s.length ≤ LIMS ∧ InR .i64 r.2.to_ ∧ r.2.w.text.length ≤ LIMS ∧ InR .i64 r.2.w.at_ ∧ InR .i64 r.2.at_ ∧ InR .i64 r.2.e) .ret a w := by
    intro a w h
    obtain ⟨m1, v0, hle, ok, hd, hrv, h0, h1, h2, h3, h4, h5, h6⟩ := h
    exact c_ret2 [.c 4 126 (.agg v0.toArray)] hd rfl hrv ⟨m1, v0, rfl, hle, ok, h0, h1, h2, h3, h4, h5, h6⟩
  refine enter Tryz.func144 rfl rfl rfl fun a E => sg <| l_alloc E ok zero_126 rfl rfl fun b13 a w E ok => wn <| sg ?_
  refine lv E ok (y_move rfl) fun a E => ?_
  obtain ⟨r14, e15, hF⟩ := bnd hF
  replace ok : Ok u m0 ([(pb0, Obj.cells [(Value.string (bs x0.s)), (Value.int .i64 x0.to_), (Value.string (bs x0.w.text)), (Value.int .i64 x0.w.at_), (Value.int .i64 x0.at_), (Value.int .i64 x0.e)].toArray 165 (0, 0))] :: [(b13, Obj.cells [(Value.int .i64 0), (Value.int .i64 0)].toArray 126 (0, 0))] :: S) w := (ok.pk 2 [1, 0] rfl (by decide))
  refine l_call E go_143 rfl (calqueref08_parser_number_w N x0 l1 r2 l3 r4 r5 r6 e15 hG ok) rfl rfl ?_
  rintro _ w ⟨⟨rfl, ok⟩, r16, l17, r18, l19, r20, r21, r22⟩
  refine ⟨_, rfl, fun a E => ?_⟩
  refine lv E ok (y_build (ps := [(0, .tmp 7)]) (qs := [(0, [(Value.int .i64 r14.1)])]) (cs := [(Value.int .i64 r14.1), (Value.int .i64 0)]) zero_126 places_126 rfl ⟨rfl, rfl, rfl, trivial⟩ rfl) fun a E => l_alloc E ok zero_126 rfl rfl fun b23 a w E ok => l_storeB E ok 0 rfl rfl rfl inf_126 rfl rfl ⟨rfl, rfl, trivial⟩ rfl rfl fun w ok => wn <| wp_seq <| wp_seq <| c_draw (by kernel_rfl) (by kernel_rfl) ok ?_
  refine qv E (y_fieldAddr fo_126_0 rfl) fun a E => qv E (y_load one_3 rfl (Holds.own 0 rfl rfl)) fun a E => qv E (y_move rfl) fun a E => ?_
  obtain ⟨r24, e25, hF⟩ := bnd hF
  obtain ⟨_, _, ⟨_, _⟩, r26⟩ := Go.X.Calls.get (calqueref08_Bound_w N operand_1 roperand_1 e25 hG ok)
  refine q_call E go_103 rfl (fun w ok => (calqueref08_Bound_w N operand_1 roperand_1 e25 hG ok).mono (fun _ _ h => h.1)) rfl rfl fun a E => qv E (y_gtr rfl rfl) fun a E => wpQuiet_nil ?_
  intro w ok
  refine t_norm ?_
  obtain ⟨o27, hJ, hF⟩ := bnd hF
  refine c_mono (Q' := fun e a w => e = .normal ∧ Ok u m0 ([(b23, Obj.cells [(Value.int .i64 r14.1), (Value.int .i64 0)].toArray 126 (0, 0))] :: [(pb0, Obj.cells [(Value.string (bs o27.s)), (Value.int .i64 o27.to_), (Value.string (bs o27.w.text)), (Value.int .i64 o27.w.at_), (Value.int .i64 o27.at_), (Value.int .i64 o27.e)].toArray 165 (0, 0))] :: [(b13, Obj.cells [(Value.int .i64 0), (Value.int .i64 0)].toArray 126 (0, 0))] :: S) w ∧ Env 45 a [(0, (Value.pointer (some ⟨pb0, 0, none⟩))), (1, (Value.int .i64 operand_1)), (4, (Value.pointer (some ⟨b13, 0, none⟩))), (5, (Value.pointer (some ⟨b23, 0, none⟩)))] ∧ o27.s.length ≤ LIMS ∧ InR .i64 o27.to_ ∧ o27.w.text.length ≤ LIMS ∧ InR .i64 o27.w.at_ ∧ InR .i64 o27.at_ ∧ InR .i64 o27.e) ?_ ?_
  · replace hF := hJ
    clear hJ
    refine c_if E rfl (fun hc34 => ?_) (fun hc34 => ?_)
    rotate_left
    · replace hF := cond_f hc34 hF
      refine wp_skip ?_
      obtain rfl := sj hF
      exact ⟨rfl, ⟨ok, E.keep [0, 1, 4, 5], l17, r18, l19, r20, r21, r22⟩⟩
    replace hF := cond_t hc34 hF
    refine c_region <| lv E ok (y_move rfl) fun a E => ?_
    obtain ⟨r35, e36, hF⟩ := bnd hF
    replace ok : Ok u m0 ([(pb0, Obj.cells [(Value.string (bs r14.2.s)), (Value.int .i64 r14.2.to_), (Value.string (bs r14.2.w.text)), (Value.int .i64 r14.2.w.at_), (Value.int .i64 r14.2.at_), (Value.int .i64 r14.2.e)].toArray 165 (0, 0))] :: [(b23, Obj.cells [(Value.int .i64 r14.1), (Value.int .i64 0)].toArray 126 (0, 0))] :: [(b13, Obj.cells [(Value.int .i64 0), (Value.int .i64 0)].toArray 126 (0, 0))] :: S) w := (ok.pk 3 [1, 0, 2] rfl (by decide))
    refine l_call E go_113 rfl (calqueref08_parser_fail_w N 2 (show InR .i64 (2) by decide) r14.2 l17 r18 l19 r20 r21 r22 e36 hG ok) rfl rfl ?_
    rintro _ w ⟨⟨rfl, ok⟩, l37, r38, l39, r40, r41, r42⟩
    refine ⟨_, rfl, fun a E => ?_⟩
    refine wpList_nil ?_
    obtain rfl := sj hF
    exact ⟨rfl, ⟨(ok.pk 3 [1, 0, 2] rfl (by decide)), E.keep [0, 1, 4, 5], l37, r38, l39, r40, r41, r42⟩⟩
  clear hJ
  intro e a w hO
  obtain ⟨rfl, ok, E, l43, r44, l45, r46, r47, r48⟩ := hO
  refine t_norm <| sg <| lv E ok (y_move rfl) fun a E => ?_
  obtain ⟨r49, e50, hF⟩ := bnd hF
  replace ok : Ok u m0 ([(pb0, Obj.cells [(Value.string (bs o27.s)), (Value.int .i64 o27.to_), (Value.string (bs o27.w.text)), (Value.int .i64 o27.w.at_), (Value.int .i64 o27.at_), (Value.int .i64 o27.e)].toArray 165 (0, 0))] :: [(b23, Obj.cells [(Value.int .i64 r14.1), (Value.int .i64 0)].toArray 126 (0, 0))] :: [(b13, Obj.cells [(Value.int .i64 0), (Value.int .i64 0)].toArray 126 (0, 0))] :: S) w := (ok.pk 3 [1, 0, 2] rfl (by decide))
  refine l_call E go_111 rfl (calqueref08_parser_step_w N o27 l43 r44 l45 r46 r47 r48 e50 hG ok) rfl rfl ?_
  rintro _ w ⟨⟨rfl, ok⟩, l51, r52, l53, r54, r55, r56⟩
  refine ⟨_, rfl, fun a E => ?_⟩
  refine wn <| sg <| lv E ok (y_fieldAddr fo_126_0 rfl) fun a E => lv E ok (y_load one_3 rfl (Holds.own 1 rfl rfl)) fun a E => lv E ok (y_fieldAddr fo_126_1 rfl) fun a E => l_storeB E ok 1 rfl rfl rfl inf_3 rfl rfl ⟨rfl, trivial⟩ rfl rfl fun w ok => ?_
  refine wn <| wp_seq <| sg <| lv E ok (y_move rfl) fun a E => ?_
  obtain ⟨r57, e58, hF⟩ := bnd hF
  refine l_call E go_115 rfl (calqueref08_parser_is_w N ([46, 46]) (show ([46, 46] : List UInt8).length ≤ LIMS by decide) r49 l51 r52 l53 r54 r55 r56 e58 hG ok) rfl rfl ?_
  rintro _ w ⟨rfl, ok⟩
  refine ⟨_, rfl, fun a E => ?_⟩
  refine wn <| c_if E rfl (fun hc59 => ?_) (fun hc59 => ?_)
  rotate_left
  · replace hF := cond_f hc59 hF
    refine wp_skip <| t_norm <| sg <| lv E ok (y_loadAgg (cs := [(Value.int .i64 r14.1), (Value.int .i64 r14.1)]) agg_126 rfl rfl (Holds.own 1 rfl rfl)) fun a E => l_storeB E ok 2 rfl rfl rfl inf_126 rfl rfl ⟨rfl, rfl, trivial⟩ rfl rfl fun w ok => wn ?_
    refine wp_ret ?_
    have hret : calqueref08_parser_span_R u m0 S pb0 x0 ((Span.mk r14.1 r14.1), r49) a w := ⟨m0, [(Value.int .i64 r14.1), (Value.int .i64 r14.1)], le_m0, (ok.pk 3 [0] rfl (by decide)), E.d, ⟨rv_c (cs := [(Value.int .i64 r14.1), (Value.int .i64 r14.1)]) E ok rfl agg_126 rfl (Holds.own 2 rfl rfl), trivial⟩, ⟨rfl, r16, r16⟩, l51, r52, l53, r54, r55, r56⟩
    obtain rfl := sj hF
    exact fin _ _ hret
  replace hF := cond_t hc59 hF
  refine sg <| lv E ok (y_move rfl) fun a E => ?_
  obtain ⟨r60, e61, hF⟩ := bnd hF
  refine l_call E go_111 rfl (calqueref08_parser_step_w N r49 l51 r52 l53 r54 r55 r56 e61 hG ok) rfl rfl ?_
  rintro _ w ⟨⟨rfl, ok⟩, l62, r63, l64, r65, r66, r67⟩
  refine ⟨_, rfl, fun a E => ?_⟩
  refine wn <| sg <| lv E ok (y_move rfl) fun a E => ?_
  obtain ⟨r68, e69, hF⟩ := bnd hF
  refine l_call E go_143 rfl (calqueref08_parser_number_w N r60 l62 r63 l64 r65 r66 r67 e69 hG ok) rfl rfl ?_
  rintro _ w ⟨⟨rfl, ok⟩, r70, l71, r72, l73, r74, r75, r76⟩
  refine ⟨_, rfl, fun a E => ?_⟩
  refine lv E ok (y_fieldAddr fo_126_1 rfl) fun a E => l_storeB E ok 1 rfl rfl rfl inf_3 rfl rfl ⟨rfl, trivial⟩ rfl rfl fun w ok => wn <| wp_seq <| wp_seq <| c_draw (by kernel_rfl) (by kernel_rfl) ok <| qv E (y_fieldAddr fo_126_1 rfl) fun a E => ?_
  refine qv E (y_load one_3 rfl (Holds.own 1 rfl rfl)) fun a E => qv E (y_move rfl) fun a E => ?_
  obtain ⟨r77, e78, hF⟩ := bnd hF
  obtain ⟨_, _, ⟨_, _⟩, r79⟩ := Go.X.Calls.get (calqueref08_Bound_w N operand_1 roperand_1 e78 hG ok)
  refine q_call E go_103 rfl (fun w ok => (calqueref08_Bound_w N operand_1 roperand_1 e78 hG ok).mono (fun _ _ h => h.1)) rfl rfl fun a E => qv E (y_gtr rfl rfl) fun a E => qv E (y_move rfl) fun a E => bsplit (decide (r68.1 > r77)) (fun hc80 => ?_) (fun hc80 => ?_)
  · replace hF := cond_t hc80 hF
    replace E := E.upd 33 hc80 rfl
    refine qs E fun a E => qs E fun a E => qs E fun a E => qs E fun a E => qs E fun a E => qv E (y_pickT rfl rfl) fun a E => wpQuiet_nil ?_
    intro w ok
    refine t_norm <| c_if E rfl (fun _ => ?_) (fun h => by cases h)
    refine c_region <| lv E ok (y_move rfl) fun a E => ?_
    obtain ⟨r81, e82, hF⟩ := bnd hF
    refine l_call E go_113 rfl (calqueref08_parser_fail_w N 2 (show InR .i64 (2) by decide) r68.2 l71 r72 l73 r74 r75 r76 e82 hG ok) rfl rfl ?_
    rintro _ w ⟨⟨rfl, ok⟩, l83, r84, l85, r86, r87, r88⟩
    refine ⟨_, rfl, fun a E => ?_⟩
    refine wn <| c_region <| lv E ok (y_move rfl) fun a E => ?_
    obtain ⟨r89, e90, hF⟩ := bnd hF
    refine l_call E go_111 rfl (calqueref08_parser_step_w N r81 l83 r84 l85 r86 r87 r88 e90 hG ok) rfl rfl ?_
    rintro _ w ⟨⟨rfl, ok⟩, l91, r92, l93, r94, r95, r96⟩
    refine ⟨_, rfl, fun a E => ?_⟩
    refine wn <| sg <| lv E ok (y_loadAgg (cs := [(Value.int .i64 r14.1), (Value.int .i64 r68.1)]) agg_126 rfl rfl (Holds.own 1 rfl rfl)) fun a E => l_storeB E ok 2 rfl rfl rfl inf_126 rfl rfl ⟨rfl, rfl, trivial⟩ rfl rfl fun w ok => wn ?_
    refine wp_ret ?_
    have hret : calqueref08_parser_span_R u m0 S pb0 x0 ((Span.mk r14.1 r68.1), r89) a w := ⟨m0, [(Value.int .i64 r14.1), (Value.int .i64 r68.1)], le_m0, (ok.pk 3 [0] rfl (by decide)), E.d, ⟨rv_c (cs := [(Value.int .i64 r14.1), (Value.int .i64 r68.1)]) E ok rfl agg_126 rfl (Holds.own 2 rfl rfl), trivial⟩, ⟨rfl, r16, r70⟩, l91, r92, l93, r94, r95, r96⟩
    obtain rfl := sj hF
    exact fin _ _ hret
  replace hF := cond_f hc80 hF
  replace E := E.upd 33 hc80 rfl
  refine qv E (y_fieldAddr fo_126_1 rfl) fun a E => qv E (y_load one_3 rfl (Holds.own 1 rfl rfl)) fun a E => qv E (y_fieldAddr fo_126_0 rfl) fun a E => qv E (y_load one_3 rfl (Holds.own 1 rfl rfl)) fun a E => qv E (y_lss rfl rfl) fun a E => qv E (y_pickF rfl rfl) fun a E => wpQuiet_nil ?_
  intro w ok
  refine t_norm <| c_if E rfl (fun hc97 => ?_) (fun hc97 => ?_)
  rotate_left
  · replace hF := cond_f hc97 hF
    refine wp_skip <| t_norm <| c_region <| lv E ok (y_move rfl) fun a E => ?_
    obtain ⟨r114, e115, hF⟩ := bnd hF
    refine l_call E go_111 rfl (calqueref08_parser_step_w N r68.2 l71 r72 l73 r74 r75 r76 e115 hG ok) rfl rfl ?_
    rintro _ w ⟨⟨rfl, ok⟩, l116, r117, l118, r119, r120, r121⟩
    refine ⟨_, rfl, fun a E => ?_⟩
    refine wn <| sg <| lv E ok (y_loadAgg (cs := [(Value.int .i64 r14.1), (Value.int .i64 r68.1)]) agg_126 rfl rfl (Holds.own 1 rfl rfl)) fun a E => l_storeB E ok 2 rfl rfl rfl inf_126 rfl rfl ⟨rfl, rfl, trivial⟩ rfl rfl fun w ok => wn ?_
    refine wp_ret ?_
    have hret : calqueref08_parser_span_R u m0 S pb0 x0 ((Span.mk r14.1 r68.1), r114) a w := ⟨m0, [(Value.int .i64 r14.1), (Value.int .i64 r68.1)], le_m0, (ok.pk 3 [0] rfl (by decide)), E.d, ⟨rv_c (cs := [(Value.int .i64 r14.1), (Value.int .i64 r68.1)]) E ok rfl agg_126 rfl (Holds.own 2 rfl rfl), trivial⟩, ⟨rfl, r16, r70⟩, l116, r117, l118, r119, r120, r121⟩
    obtain rfl := sj hF
    exact fin _ _ hret
  replace hF := cond_t hc97 hF
  refine c_region <| lv E ok (y_move rfl) fun a E => ?_
  obtain ⟨r98, e99, hF⟩ := bnd hF
  refine l_call E go_113 rfl (calqueref08_parser_fail_w N 2 (show InR .i64 (2) by decide) r68.2 l71 r72 l73 r74 r75 r76 e99 hG ok) rfl rfl ?_
  rintro _ w ⟨⟨rfl, ok⟩, l100, r101, l102, r103, r104, r105⟩
  refine ⟨_, rfl, fun a E => ?_⟩
  refine wn <| c_region <| lv E ok (y_move rfl) fun a E => ?_
  obtain ⟨r106, e107, hF⟩ := bnd hF
  refine l_call E go_111 rfl (calqueref08_parser_step_w N r98 l100 r101 l102 r103 r104 r105 e107 hG ok) rfl rfl ?_
  rintro _ w ⟨⟨rfl, ok⟩, l108, r109, l110, r111, r112, r113⟩
  refine ⟨_, rfl, fun a E => ?_⟩
  refine wn <| sg <| lv E ok (y_loadAgg (cs := [(Value.int .i64 r14.1), (Value.int .i64 r68.1)]) agg_126 rfl rfl (Holds.own 1 rfl rfl)) fun a E => l_storeB E ok 2 rfl rfl rfl inf_126 rfl rfl ⟨rfl, rfl, trivial⟩ rfl rfl fun w ok => wn ?_
  refine wp_ret ?_
  have hret : calqueref08_parser_span_R u m0 S pb0 x0 ((Span.mk r14.1 r68.1), r106) a w := ⟨m0, [(Value.int .i64 r14.1), (Value.int .i64 r68.1)], le_m0, (ok.pk 3 [0] rfl (by decide)), E.d, ⟨rv_c (cs := [(Value.int .i64 r14.1), (Value.int .i64 r68.1)]) E ok rfl agg_126 rfl (Holds.own 2 rfl rfl), trivial⟩, ⟨rfl, r16, r70⟩, l108, r109, l110, r111, r112, r113⟩
  obtain rfl := sj hF
  exact fin _ _ hret

def calqueref08_parser_digit_R (u : World) (m0 : Mem) (S : Segs) (pb0 : Nat) (x0 : Parser) (r : Bool) (a : Act) (w : World) : Prop :=
  Ok u m0 ([(pb0, Obj.cells [(Value.string (bs x0.s)), (Value.int .i64 x0.to_), (Value.string (bs x0.w.text)), (Value.int .i64 x0.w.at_), (Value.int .i64 x0.at_), (Value.int .i64 x0.e)].toArray 165 (0, 0))] :: S) w ∧ a.defers = [] ∧ RVs Tryz.prog a w [.t 2 (.bool r)]
set_option maxHeartbeats 4000000 in
set_option maxRecDepth 100000 in
theorem calqueref08_parser_digit_w {u : World} {m0 : Mem} {S : Segs} {w : World} (N : Nat) {pb0 : Nat} (x0 : Parser) (l1 : x0.s.length ≤ LIMS) (r2 : InR .i64 x0.to_) (l3 : x0.w.text.length ≤ LIMS) (r4 : InR .i64 x0.w.at_) (r5 : InR .i64 x0.at_) (r6 : InR .i64 x0.e) {r : Bool} (hF : calqueref08_parser_digit N x0 = some r) (hG : Glob u) (ok : Ok u m0 ([(pb0, Obj.cells [(Value.string (bs x0.s)), (Value.int .i64 x0.to_), (Value.string (bs x0.w.text)), (Value.int .i64 x0.w.at_), (Value.int .i64 x0.at_), (Value.int .i64 x0.e)].toArray 165 (0, 0))] :: S) w) :
    Calls Tryz.prog 145 [Value.pointer (some ⟨pb0, 0, none⟩)].toArray w fun e w' => (e = .returned (.bool r) ∧ Ok u m0 ([(pb0, Obj.cells [(Value.string (bs x0.s)), (Value.int .i64 x0.to_), (Value.string (bs x0.w.text)), (Value.int .i64 x0.w.at_), (Value.int .i64 x0.at_), (Value.int .i64 x0.e)].toArray 165 (0, 0))] :: S) w') := by
  have hb0 := ok.base
  have le_m0 := Mem.le.refl m0
  unfold calqueref08_parser_digit at hF
  have fin : ∀ a w, calqueref08_parser_digit_R u m0 S pb0 x0 r a w → bodyPost Tryz.prog Tryz.f145 (fun e w' => (e = .returned (.bool r) ∧ Ok u m0 ([(pb0, Obj.cells [(Value.string (bs x0.s)), (Value.int .i64 x0.to_), (Value.string (bs x0.w.text)), (Value.int .i64 x0.w.at_), (Value.int .i64 x0.at_), (Value.int .i64 x0.e)].toArray 165 (0, 0))] :: S) w')) .ret a w := by
    intro a w h
    obtain ⟨ok, hd, hrv⟩ := h
    exact c_ret2 [.t 2 (.bool r)] hd rfl hrv ⟨rfl, ok⟩
  refine enter Tryz.func145 rfl rfl rfl fun a E => sg <| lv E ok (y_assign rfl) fun a E => wn <| wp_seq ?_
  obtain ⟨o7, hJ, hF⟩ := bnd hF
  refine c_mono (Q' := fun e a w => e = .normal ∧ ∃ b14, Ok u m0 ([(b14, Obj.cells [(Value.string (bs o7.s)), (Value.int .i64 o7.to_), (Value.string (bs o7.w.text)), (Value.int .i64 o7.w.at_), (Value.int .i64 o7.at_), (Value.int .i64 o7.e)].toArray 165 (0, 0))] :: [(pb0, Obj.cells [(Value.string (bs x0.s)), (Value.int .i64 x0.to_), (Value.string (bs x0.w.text)), (Value.int .i64 x0.w.at_), (Value.int .i64 x0.at_), (Value.int .i64 x0.e)].toArray 165 (0, 0))] :: S) w ∧ Env 17 a [(3, (Value.pointer (some ⟨b14, 0, none⟩)))] ∧ o7.s.length ≤ LIMS ∧ InR .i64 o7.to_ ∧ o7.w.text.length ≤ LIMS ∧ InR .i64 o7.w.at_ ∧ InR .i64 o7.at_ ∧ InR .i64 o7.e) ?_ ?_
  rotate_left
  · clear hJ
    intro e a w hO
    obtain ⟨rfl, b23, ok, E, l17, r18, l19, r20, r21, r22⟩ := hO
    refine t_norm <| sg ?_
    obtain ⟨r24, e25, hF⟩ := bnd hF
    refine l_call E go_143 rfl (calqueref08_parser_number_w N o7 l17 r18 l19 r20 r21 r22 e25 hG ok) rfl rfl ?_
    rintro _ w ⟨⟨rfl, ok⟩, r26, l27, r28, l29, r30, r31, r32⟩
    refine ⟨_, rfl, fun a E => ?_⟩
    refine wn <| sg <| lv E ok (y_fieldAddr fo_165_4 rfl) fun a E => lv E ok (y_load one_27 rfl (Holds.own 0 rfl rfl)) fun a E => lv E ok (y_eql rfl rfl) fun a E => lv E ok (y_assign rfl) fun a E => ?_
    refine wn <| wp_ret ?_
    have hret : calqueref08_parser_digit_R u m0 S pb0 x0 (r24.2.e == 0) a w := ⟨ok.drop, E.d, ⟨rv_t E rfl, trivial⟩⟩
    obtain rfl := sj hF
    exact fin _ _ hret
  replace hF := hJ
  clear hJ
  obtain rfl := sj hF
  refine k_begin [] (Cls u m0 ([(pb0, Obj.cells [(Value.string (bs x0.s)), (Value.int .i64 x0.to_), (Value.string (bs x0.w.text)), (Value.int .i64 x0.w.at_), (Value.int .i64 x0.at_), (Value.int .i64 x0.e)].toArray 165 (0, 0))] :: [])) (Cls u m0 ([(pb0, Obj.cells [(Value.string (bs x0.s)), (Value.int .i64 x0.to_), (Value.string (bs x0.w.text)), (Value.int .i64 x0.w.at_), (Value.int .i64 x0.at_), (Value.int .i64 x0.e)].toArray 165 (0, 0))] :: [])) (by kernel_rfl) ?_
  intro w hw
  replace ok := okdrew ok hw
  clear hw
  refine k_next (cl1 ⟨m0, _, le_m0, ok, ⟨memAt 0 rfl, trivial⟩⟩ ⟨m0, _, le_m0, ok, ⟨memAt 0 rfl, trivial⟩⟩) fun hT => kt 0 E rfl hT (y_move rfl) fun a E => kt 1 E rfl hT (y_nilCheck rfl) fun a E => kt 2 E rfl hT (y_fieldAddr fo_165_0 rfl) fun a E => kt 3 E rfl hT (y_load one_9 rfl (Holds.cown 0 rfl rfl)) fun a E => kt 4 E rfl hT (y_move rfl) fun a E => kt 5 E rfl hT (y_nilCheck rfl) fun a E => kt 6 E rfl hT (y_fieldAddr fo_165_2 rfl) fun a E => ?_
  refine kt 7 E rfl hT (y_loadAgg (cs := [(Value.string (bs x0.w.text)), (Value.int .i64 x0.w.at_)]) agg_163 rfl rfl (Holds.cown 0 rfl rfl)) fun a E => kt 8 E rfl hT (y_build (ps := [(0, .tmp 7), (2, .tmp 11)]) (qs := [(0, [(Value.string (bs x0.s))]), (2, [(Value.string (bs x0.w.text)), (Value.int .i64 x0.w.at_)])]) (cs := [(Value.string (bs x0.s)), (Value.int .i64 0), (Value.string (bs x0.w.text)), (Value.int .i64 x0.w.at_), (Value.int .i64 0), (Value.int .i64 0)]) zero_165 places_165 rfl ⟨rfl, rfl, rfl, ⟨rfl, rfl, rfl, trivial⟩⟩ rfl) fun a E => k_all [9] (by kernel_rfl) rfl (one_c ?_)
  · refine wpOp_of_list (o := _) rfl <| l_alloc E ok zero_165 rfl rfl fun b16 a w E ok => wn <| k_next (cl1 ⟨m0, _, le_m0, ok, ⟨memAt 1 rfl, trivial⟩⟩ ⟨m0, _, le_m0, ok, ⟨memAt 1 rfl, trivial⟩⟩) fun hT => k_all [10] (by kernel_rfl) rfl (one_c ?_)
    · refine wpOp_of_list (o := _) rfl <| l_storeB E ok 0 rfl rfl rfl inf_165 rfl rfl ⟨rfl, rfl, rfl, rfl, rfl, rfl, trivial⟩ rfl rfl fun w ok => wn <| k_next (cl1 ⟨m0, _, le_m0, ok, ⟨memAt 1 rfl, trivial⟩⟩ ⟨m0, _, le_m0, ok, ⟨memAt 1 rfl, trivial⟩⟩) fun hT => k_done (by kernel_rfl) ?_
      exact ⟨rfl, ⟨b16, ok, E.keep [3], l1, (show InR .i64 0 by decide), l3, r4, (show InR .i64 0 by decide), (show InR .i64 0 by decide)⟩⟩

def calqueref08_parser_relation_R (u : World) (m0 : Mem) (S : Segs) (pb0 : Nat) (x0 : Parser) (r : Relation × Parser) (a : Act) (w : World) : Prop :=
  ∃ m1 v0, m0.le m1 ∧ Ok u m1 ([(pb0, Obj.cells [(Value.string (bs r.2.s)), (Value.int .i64 r.2.to_), (Value.string (bs r.2.w.text)), (Value.int .i64 r.2.w.at_), (Value.int .i64 r.2.at_), (Value.int .i64 r.2.e)].toArray 165 (0, 0))] :: S) w ∧ a.defers = [] ∧ RVs Tryz.prog a w [.c 2 69 (.agg v0.toArray)] ∧ pRelation m1 v0 r.1 ∧ r.2.s.length ≤ LIMS ∧ InR .i64 r.2.to_ ∧ r.2.w.text.length ≤ LIMS ∧ InR .i64 r.2.w.at_ ∧ InR .i64 r.2.at_ ∧ InR .i64 r.2.e
set_option maxHeartbeats 4000000 in
set_option maxRecDepth 100000 in
theorem calqueref08_parser_relation_w {u : World} {m0 : Mem} {S : Segs} {w : World} (N : Nat) {pb0 : Nat} (x0 : Parser) (l1 : x0.s.length ≤ LIMS) (r2 : InR .i64 x0.to_) (l3 : x0.w.text.length ≤ LIMS) (r4 : InR .i64 x0.w.at_) (r5 : InR .i64 x0.at_) (r6 : InR .i64 x0.e) {r : Relation × Parser} (hF : calqueref08_parser_relation N x0 = some r) (hG : Glob u) (ok : Ok u m0 ([(pb0, Obj.cells [(Value.string (bs x0.s)), (Value.int .i64 x0.to_), (Value.string (bs x0.w.text)), (Value.int .i64 x0.w.at_), (Value.int .i64 x0.at_), (Value.int .i64 x0.e)].toArray 165 (0, 0))] :: S) w) :
    Calls Tryz.prog 114 [Value.pointer (some ⟨pb0, 0, none⟩)].toArray w fun e w' => ∃ m1 v0, e = .returned (.agg v0.toArray) ∧ m0.le m1 ∧ Ok u m1 ([(pb0, Obj.cells [(Value.string (bs r.2.s)), (Value.int .i64 r.2.to_), (Value.string (bs r.2.w.text)), (Value.int .i64 r.2.w.at_), (Value.int .i64 r.2.at_), (Value.int .i64 r.2.e)].toArray 165 (0, 0))] :: S) w' ∧ pRelation m1 v0 r.1 ∧ r.2.s.length ≤ LIMS ∧ InR .i64 r.2.to_ ∧ r.2.w.text.length ≤ LIMS ∧ InR .i64 r.2.w.at_ ∧ InR .i64 r.2.at_ ∧ InR .i64 r.2.e := by
  have le_m0 := Mem.le.refl m0
  unfold calqueref08_parser_relation at hF
  have fin : ∀ a w, calqueref08_parser_relation_R u m0 S pb0 x0 r a w → bodyPost Tryz.prog Tryz.f114 (fun e w' => ∃ m1 v0, e = .returned (.agg v0.toArray) ∧ m0.le m1 ∧ Ok u m1 ([(pb0, Obj.cells [(Value.string (bs r.2.s)), (Value.int .i64 r.2.to_), (Value.string (bs r.2.w.text)), (Value.int .i64 r.2.w.at_), (Value.int .i64 r.2.at_), (Value.int .i64 r.2.e)].toArray 165 (0, 0))] :: S) w' ∧ pRelation m1 v0 r.1 ∧ r.2.s.length ≤ LIMS ∧ InR .i64 r.2.to_ ∧ r.2.w.text.length ≤ LIMS ∧ InR .i64 r.2.w.at_ ∧ InR .i64 r.2.at_ ∧ InR .i64 r.2.e) .ret a w := by
    intro a w h
    obtain ⟨m1, v0, hle, ok, hd, hrv, h0, h1, h2, h3, h4, h5, h6⟩ := h
    exact c_ret2 [.c 2 69 (.agg v0.toArray)] hd rfl hrv ⟨m1, v0, rfl, hle, ok, h0, h1, h2, h3, h4, h5, h6⟩
  refine enter Tryz.func114 rfl rfl rfl fun a E => sg <| l_alloc E ok zero_69 rfl rfl fun b13 a w E ok => wn <| sg ?_
  refine l_alloc E ok zero_69 rfl rfl fun b14 a w E ok => wn <| wp_seq <| sg <| lv E ok (y_assign rfl) fun a E => wpList_nil ?_
  refine t_norm <| wp_block ?_
  obtain ⟨o19, hL, hF⟩ := bnd hF
  refine c_loop _ (fun (s : Int × Relation) a w => Ok u m0 ([(b14, Obj.cells [(Value.int .i64 s.2.Operand), (Value.int .i64 s.2.Mod), (Value.bool s.2.Not), (Value.slice none 0 0)].toArray 69 (0, 0))] :: [(b13, Obj.cells [(Value.int .i64 0), (Value.int .i64 0), (Value.bool false), (Value.slice none 0 0)].toArray 69 (0, 0))] :: [(pb0, Obj.cells [(Value.string (bs x0.s)), (Value.int .i64 x0.to_), (Value.string (bs x0.w.text)), (Value.int .i64 x0.w.at_), (Value.int .i64 x0.at_), (Value.int .i64 x0.e)].toArray 165 (0, 0))] :: S) w ∧ Env 103 a [(0, (Value.pointer (some ⟨pb0, 0, none⟩))), (2, (Value.pointer (some ⟨b13, 0, none⟩))), (3, (Value.pointer (some ⟨b14, 0, none⟩))), (4, (Value.int .i64 s.1))] ∧ InR .i64 s.1 ∧ InR .i64 s.2.Operand ∧ InR .i64 s.2.Mod) (fun (b : Relation) e a w => e = (.exit 0) ∧ Ok u m0 ([(b14, Obj.cells [(Value.int .i64 b.Operand), (Value.int .i64 b.Mod), (Value.bool b.Not), (Value.slice none 0 0)].toArray 69 (0, 0))] :: [(b13, Obj.cells [(Value.int .i64 0), (Value.int .i64 0), (Value.bool false), (Value.slice none 0 0)].toArray 69 (0, 0))] :: [(pb0, Obj.cells [(Value.string (bs x0.s)), (Value.int .i64 x0.to_), (Value.string (bs x0.w.text)), (Value.int .i64 x0.w.at_), (Value.int .i64 x0.at_), (Value.int .i64 x0.e)].toArray 165 (0, 0))] :: S) w ∧ Env 103 a [(0, (Value.pointer (some ⟨pb0, 0, none⟩))), (2, (Value.pointer (some ⟨b13, 0, none⟩))), (3, (Value.pointer (some ⟨b14, 0, none⟩)))] ∧ InR .i64 b.Operand ∧ InR .i64 b.Mod) ?_ ?_ N _ a w hL ⟨ok, E.keep [0, 2, 3, 4], (show InR .i64 (0) by decide), (show InR .i64 0 by decide), (show InR .i64 0 by decide)⟩
  · rintro ⟨i_23, x_24⟩ a w r ⟨ok, E, r25, r26, r27⟩ hF
    replace hF : calqueref08_parser_relation_b1 N x0 i_23 x_24 = some r := hF
    unfold calqueref08_parser_relation_b1 at hF
    refine wp_seq <| sg <| lv E ok (y_move rfl) fun a E => lv E ok (y_lss rfl rfl) fun a E => wn <| c_if E rfl (fun hc28 => ?_) (fun hc28 => ?_)
    rotate_left
    · replace hF := cond_f hc28 hF
      refine wp_exit <| t_exit ?_
      obtain rfl := sj hF
      exact step_o (by nofun) (⟨rfl, ⟨ok, E.keep [0, 2, 3], r26, r27⟩⟩)
    replace hF := cond_t hc28 hF
    refine wp_skip <| t_norm <| wp_seq <| wp_block <| sg <| lv E ok (y_move rfl) fun a E => lv E ok (y_move rfl) fun a E => ?_
    refine lv E ok (y_move rfl) fun a E => lv E ok (y_add rfl rfl (InR.inc r25 (show InR .i64 (6) by decide) hc28)) fun a E => ?_
    obtain ⟨s29, e30, hF⟩ := bnd hF
    refine lv E ok (y_sslice Tryz.underlying9 e30 rfl ⟨_, rfl⟩ ⟨_, rfl⟩) fun a E => ?_
    obtain ⟨r31, e32, hF⟩ := bnd hF
    replace ok : Ok u m0 ([(pb0, Obj.cells [(Value.string (bs x0.s)), (Value.int .i64 x0.to_), (Value.string (bs x0.w.text)), (Value.int .i64 x0.w.at_), (Value.int .i64 x0.at_), (Value.int .i64 x0.e)].toArray 165 (0, 0))] :: [(b14, Obj.cells [(Value.int .i64 x_24.Operand), (Value.int .i64 x_24.Mod), (Value.bool x_24.Not), (Value.slice none 0 0)].toArray 69 (0, 0))] :: [(b13, Obj.cells [(Value.int .i64 0), (Value.int .i64 0), (Value.bool false), (Value.slice none 0 0)].toArray 69 (0, 0))] :: S) w := (ok.pk 3 [2, 0, 1] rfl (by decide))
    refine l_call E go_115 rfl (calqueref08_parser_is_w N s29 (Nat.le_trans (slc_len e30) (show ([110, 105, 118, 119, 102, 116] : List UInt8).length ≤ LIMS by decide)) x0 l1 r2 l3 r4 r5 r6 e32 hG ok) rfl rfl ?_
    rintro _ w ⟨rfl, ok⟩
    refine ⟨_, rfl, fun a E => ?_⟩
    refine wn <| c_if E rfl (fun hc33 => ?_) (fun hc33 => ?_)
    rotate_left
    · replace hF := cond_f hc33 hF
      refine wp_skip <| b_norm <| t_norm <| c_region <| lv E ok (y_move rfl) fun a E => lv E ok (y_add rfl rfl (InR.inc r25 (show InR .i64 (6) by decide) hc28)) fun a E => lv E ok (y_assign rfl) fun a E => wpList_nil ?_
      obtain rfl := sj hF
      exact step_n ⟨(ok.pk 3 [1, 2, 0] rfl (by decide)), E.keep [0, 2, 3, 4], (InR.inc r25 (show InR .i64 (6) by decide) hc28), r26, r27⟩
    replace hF := cond_t hc33 hF
    refine c_region <| lv E ok (y_move rfl) fun a E => lv E ok (y_add rfl rfl (InR.inc r25 (show InR .i64 (6) by decide) hc28)) fun a E => lv E ok (y_fieldAddr fo_69_0 rfl) fun a E => l_storeB E ok 1 rfl rfl rfl inf_3 rfl rfl ⟨rfl, trivial⟩ rfl rfl fun w ok => wpList_nil <| b_norm <| t_norm ?_
    refine c_region <| lv E ok (y_move rfl) fun a E => lv E ok (y_add rfl rfl (InR.inc r25 (show InR .i64 (6) by decide) hc28)) fun a E => lv E ok (y_assign rfl) fun a E => wpList_nil ?_
    obtain rfl := sj hF
    exact step_n ⟨(ok.pk 3 [1, 2, 0] rfl (by decide)), E.keep [0, 2, 3, 4], (InR.inc r25 (show InR .i64 (6) by decide) hc28), (InR.inc r25 (show InR .i64 (6) by decide) hc28), r27⟩
  intro e a w _ hO
  obtain ⟨rfl, ok, E, r34, r35⟩ := hO
  refine b_hit <| t_norm <| wp_seq <| sg <| lv E ok (y_fieldAddr fo_69_0 rfl) fun a E => lv E ok (y_load one_3 rfl (Holds.own 0 rfl rfl)) fun a E => lv E ok (y_eql rfl rfl) fun a E => ?_
  refine wn ?_
  obtain ⟨o36, hJ, hF⟩ := bnd hF
  refine c_mono (Q' := fun e a w => e = .normal ∧ Ok u m0 ([(b14, Obj.cells [(Value.int .i64 o19.Operand), (Value.int .i64 o19.Mod), (Value.bool o19.Not), (Value.slice none 0 0)].toArray 69 (0, 0))] :: [(b13, Obj.cells [(Value.int .i64 0), (Value.int .i64 0), (Value.bool false), (Value.slice none 0 0)].toArray 69 (0, 0))] :: [(pb0, Obj.cells [(Value.string (bs o36.s)), (Value.int .i64 o36.to_), (Value.string (bs o36.w.text)), (Value.int .i64 o36.w.at_), (Value.int .i64 o36.at_), (Value.int .i64 o36.e)].toArray 165 (0, 0))] :: S) w ∧ Env 103 a [(0, (Value.pointer (some ⟨pb0, 0, none⟩))), (2, (Value.pointer (some ⟨b13, 0, none⟩))), (3, (Value.pointer (some ⟨b14, 0, none⟩)))] ∧ o36.s.length ≤ LIMS ∧ InR .i64 o36.to_ ∧ o36.w.text.length ≤ LIMS ∧ InR .i64 o36.w.at_ ∧ InR .i64 o36.at_ ∧ InR .i64 o36.e) ?_ ?_
  · replace hF := hJ
    clear hJ
    refine c_if E rfl (fun hc43 => ?_) (fun hc43 => ?_)
    rotate_left
    · replace hF := cond_f hc43 hF
      refine wp_skip ?_
      obtain rfl := sj hF
      exact ⟨rfl, ⟨ok, E.keep [0, 2, 3], l1, r2, l3, r4, r5, r6⟩⟩
    replace hF := cond_t hc43 hF
    refine c_region <| lv E ok (y_move rfl) fun a E => ?_
    obtain ⟨r44, e45, hF⟩ := bnd hF
    replace ok : Ok u m0 ([(pb0, Obj.cells [(Value.string (bs x0.s)), (Value.int .i64 x0.to_), (Value.string (bs x0.w.text)), (Value.int .i64 x0.w.at_), (Value.int .i64 x0.at_), (Value.int .i64 x0.e)].toArray 165 (0, 0))] :: [(b14, Obj.cells [(Value.int .i64 o19.Operand), (Value.int .i64 o19.Mod), (Value.bool o19.Not), (Value.slice none 0 0)].toArray 69 (0, 0))] :: [(b13, Obj.cells [(Value.int .i64 0), (Value.int .i64 0), (Value.bool false), (Value.slice none 0 0)].toArray 69 (0, 0))] :: S) w := (ok.pk 3 [2, 0, 1] rfl (by decide))
    refine l_call E go_113 rfl (calqueref08_parser_fail_w N 3 (show InR .i64 (3) by decide) x0 l1 r2 l3 r4 r5 r6 e45 hG ok) rfl rfl ?_
    rintro _ w ⟨⟨rfl, ok⟩, l46, r47, l48, r49, r50, r51⟩
    refine ⟨_, rfl, fun a E => ?_⟩
    refine wpList_nil ?_
    obtain rfl := sj hF
    exact ⟨rfl, ⟨(ok.pk 3 [1, 2, 0] rfl (by decide)), E.keep [0, 2, 3], l46, r47, l48, r49, r50, r51⟩⟩
  clear hJ
  intro e a w hO
  obtain ⟨rfl, ok, E, l52, r53, l54, r55, r56, r57⟩ := hO
  refine t_norm <| sg <| lv E ok (y_move rfl) fun a E => ?_
  obtain ⟨r58, e59, hF⟩ := bnd hF
  replace ok : Ok u m0 ([(pb0, Obj.cells [(Value.string (bs o36.s)), (Value.int .i64 o36.to_), (Value.string (bs o36.w.text)), (Value.int .i64 o36.w.at_), (Value.int .i64 o36.at_), (Value.int .i64 o36.e)].toArray 165 (0, 0))] :: [(b14, Obj.cells [(Value.int .i64 o19.Operand), (Value.int .i64 o19.Mod), (Value.bool o19.Not), (Value.slice none 0 0)].toArray 69 (0, 0))] :: [(b13, Obj.cells [(Value.int .i64 0), (Value.int .i64 0), (Value.bool false), (Value.slice none 0 0)].toArray 69 (0, 0))] :: S) w := (ok.pk 3 [2, 0, 1] rfl (by decide))
  refine l_call E go_111 rfl (calqueref08_parser_step_w N o36 l52 r53 l54 r55 r56 r57 e59 hG ok) rfl rfl ?_
  rintro _ w ⟨⟨rfl, ok⟩, l60, r61, l62, r63, r64, r65⟩
  refine ⟨_, rfl, fun a E => ?_⟩
  refine wn <| wp_seq <| sg <| lv E ok (y_move rfl) fun a E => ?_
  obtain ⟨r66, e67, hF⟩ := bnd hF
  refine l_call E go_115 rfl (calqueref08_parser_is_w N ([37]) (show ([37] : List UInt8).length ≤ LIMS by decide) r58 l60 r61 l62 r63 r64 r65 e67 hG ok) rfl rfl ?_
  rintro _ w ⟨rfl, ok⟩
  refine ⟨_, rfl, fun a E => ?_⟩
  refine wn ?_
  obtain ⟨o68, hJ, hF⟩ := bnd hF
  refine c_mono (Q' := fun e a w => e = .normal ∧ ∃ m69, m0.le m69 ∧ Ok u m69 ([(pb0, Obj.cells [(Value.string (bs o68.1.s)), (Value.int .i64 o68.1.to_), (Value.string (bs o68.1.w.text)), (Value.int .i64 o68.1.w.at_), (Value.int .i64 o68.1.at_), (Value.int .i64 o68.1.e)].toArray 165 (0, 0))] :: [(b14, Obj.cells [(Value.int .i64 o68.2.Operand), (Value.int .i64 o68.2.Mod), (Value.bool o68.2.Not), (Value.slice none 0 0)].toArray 69 (0, 0))] :: [(b13, Obj.cells [(Value.int .i64 0), (Value.int .i64 0), (Value.bool false), (Value.slice none 0 0)].toArray 69 (0, 0))] :: S) w ∧ Env 103 a [(0, (Value.pointer (some ⟨pb0, 0, none⟩))), (2, (Value.pointer (some ⟨b13, 0, none⟩))), (3, (Value.pointer (some ⟨b14, 0, none⟩)))] ∧ o68.1.s.length ≤ LIMS ∧ InR .i64 o68.1.to_ ∧ o68.1.w.text.length ≤ LIMS ∧ InR .i64 o68.1.w.at_ ∧ InR .i64 o68.1.at_ ∧ InR .i64 o68.1.e ∧ InR .i64 o68.2.Operand ∧ InR .i64 o68.2.Mod) ?_ ?_
  · as_aux_lemma =>
      replace hF := hJ
      clear hJ
      refine c_if E rfl (fun hc78 => ?_) (fun hc78 => ?_)
      rotate_left
      · replace hF := cond_f hc78 hF
        refine wp_skip ?_
        obtain rfl := sj hF
        exact ⟨rfl, ⟨m0, le_m0, ok, E.keep [0, 2, 3], l60, r61, l62, r63, r64, r65, r34, r35⟩⟩
      replace hF := cond_t hc78 hF
      refine sg <| lv E ok (y_move rfl) fun a E => ?_
      obtain ⟨r79, e80, hF⟩ := bnd hF
      refine l_call E go_111 rfl (calqueref08_parser_step_w N r58 l60 r61 l62 r63 r64 r65 e80 hG ok) rfl rfl ?_
      rintro _ w ⟨⟨rfl, ok⟩, l81, r82, l83, r84, r85, r86⟩
      refine ⟨_, rfl, fun a E => ?_⟩
      refine wn <| sg <| lv E ok (y_move rfl) fun a E => ?_
      obtain ⟨r87, e88, hF⟩ := bnd hF
      refine l_call E go_143 rfl (calqueref08_parser_number_w N r79 l81 r82 l83 r84 r85 r86 e88 hG ok) rfl rfl ?_
      rintro _ w ⟨⟨rfl, ok⟩, r89, l90, r91, l92, r93, r94, r95⟩
      refine ⟨_, rfl, fun a E => ?_⟩
      refine lv E ok (y_fieldAddr fo_69_1 rfl) fun a E => l_storeB E ok 1 rfl rfl rfl inf_3 rfl rfl ⟨rfl, trivial⟩ rfl rfl fun w ok => wn <| wp_seq <| wp_seq ?_
      obtain ⟨o96, hJ, hF⟩ := bnd hF
      refine c_mono (Q' := fun e a w => e = .normal ∧ ∃ m97, m0.le m97 ∧ Ok u m97 ([(pb0, Obj.cells [(Value.string (bs r87.2.s)), (Value.int .i64 r87.2.to_), (Value.string (bs r87.2.w.text)), (Value.int .i64 r87.2.w.at_), (Value.int .i64 r87.2.at_), (Value.int .i64 r87.2.e)].toArray 165 (0, 0))] :: [(b14, Obj.cells [(Value.int .i64 o19.Operand), (Value.int .i64 r87.1), (Value.bool o19.Not), (Value.slice none 0 0)].toArray 69 (0, 0))] :: [(b13, Obj.cells [(Value.int .i64 0), (Value.int .i64 0), (Value.bool false), (Value.slice none 0 0)].toArray 69 (0, 0))] :: S) w ∧ Env 103 a [(0, (Value.pointer (some ⟨pb0, 0, none⟩))), (2, (Value.pointer (some ⟨b13, 0, none⟩))), (3, (Value.pointer (some ⟨b14, 0, none⟩))), (38, (Value.bool o96))]) ?_ ?_
      · replace hF := hJ
        clear hJ
        obtain ⟨r98, e99, hF⟩ := bnd hF
        obtain ⟨r103, e104, hF⟩ := bnd hF
        obtain rfl := sj hF
        refine k_begin [] (Cls u m0 ([(pb0, Obj.cells [(Value.string (bs r87.2.s)), (Value.int .i64 r87.2.to_), (Value.string (bs r87.2.w.text)), (Value.int .i64 r87.2.w.at_), (Value.int .i64 r87.2.at_), (Value.int .i64 r87.2.e)].toArray 165 (0, 0))] :: [(b14, Obj.cells [(Value.int .i64 o19.Operand), (Value.int .i64 r87.1), (Value.bool o19.Not), (Value.slice none 0 0)].toArray 69 (0, 0))] :: [(b13, Obj.cells [(Value.int .i64 0), (Value.int .i64 0), (Value.bool false), (Value.slice none 0 0)].toArray 69 (0, 0))] :: [])) (Cls u m0 ([(pb0, Obj.cells [(Value.string (bs r87.2.s)), (Value.int .i64 r87.2.to_), (Value.string (bs r87.2.w.text)), (Value.int .i64 r87.2.w.at_), (Value.int .i64 r87.2.at_), (Value.int .i64 r87.2.e)].toArray 165 (0, 0))] :: [(b14, Obj.cells [(Value.int .i64 o19.Operand), (Value.int .i64 r87.1), (Value.bool o19.Not), (Value.slice none 0 0)].toArray 69 (0, 0))] :: [(b13, Obj.cells [(Value.int .i64 0), (Value.int .i64 0), (Value.bool false), (Value.slice none 0 0)].toArray 69 (0, 0))] :: [])) (by kernel_rfl) ?_
        intro w hw
        replace ok := okdrew ok hw
        clear hw
        refine k_next (cl1 ⟨m0, _, le_m0, ok, ⟨memAt 0 rfl, memAt 1 rfl, memAt 2 rfl, trivial⟩⟩ ⟨m0, _, le_m0, ok, ⟨memAt 0 rfl, memAt 1 rfl, memAt 2 rfl, trivial⟩⟩) fun hT => kt 0 E rfl hT (y_fieldAddr fo_69_0 rfl) fun a E => kt 1 E rfl hT (y_load one_3 rfl (Holds.cown 1 rfl rfl)) fun a E => kt 3 E rfl hT (y_fieldAddr fo_69_1 rfl) fun a E => kt 4 E rfl hT (y_load one_3 rfl (Holds.cown 1 rfl rfl)) fun a E => k_all [2] (by kernel_rfl) rfl (one_c ?_)
        · refine wpOp_of_list (o := _) rfl <| l_call E go_102 rfl (calqueref08_Mods_w N o19.Operand r34 e99 hG ok) rfl rfl ?_
          rintro _ w ⟨m105, c106, rfl, hle, ok, h107⟩
          have le_m0 := le_m0.trans hle
          refine ⟨_, rfl, fun a E => ?_⟩
          refine wn <| k_next (cl1 ⟨m105, _, le_m0, ok, ⟨memAt 0 rfl, memAt 1 rfl, memAt 2 rfl, trivial⟩⟩ ⟨m105, _, le_m0, ok, ⟨memAt 0 rfl, memAt 1 rfl, memAt 2 rfl, trivial⟩⟩) fun hT => k_all [5] (by kernel_rfl) rfl (one_c ?_)
          · refine wpOp_of_list (o := _) rfl <| l_call E go_101 rfl (calqueref08_has_w N _ r98 h107 r87.1 r89 e104 hG ok) rfl rfl ?_
            rintro _ w ⟨rfl, ok⟩
            refine ⟨_, rfl, fun a E => ?_⟩
            refine wn <| k_next (cl1 ⟨m105, _, le_m0, ok, ⟨memAt 0 rfl, memAt 1 rfl, memAt 2 rfl, trivial⟩⟩ ⟨m105, _, le_m0, ok, ⟨memAt 0 rfl, memAt 1 rfl, memAt 2 rfl, trivial⟩⟩) fun hT => kt 6 E rfl hT (y_not rfl) fun a E => k_done (by kernel_rfl) ?_
            exact ⟨rfl, ⟨m105, le_m0, ok, E.keep [0, 2, 3, 38]⟩⟩
      clear hJ
      intro e a w hO
      obtain ⟨rfl, m108, hle, ok, E⟩ := hO
      have le_m0 := le_m0.trans hle
      refine t_norm <| c_if E rfl (fun hc109 => ?_) (fun hc109 => ?_)
      rotate_left
      · replace hF := cond_f hc109 hF
        refine wp_skip <| t_norm <| c_region <| lv E ok (y_move rfl) fun a E => ?_
        obtain ⟨r126, e127, hF⟩ := bnd hF
        refine l_call E go_111 rfl (calqueref08_parser_step_w N r87.2 l90 r91 l92 r93 r94 r95 e127 hG ok) rfl rfl ?_
        rintro _ w ⟨⟨rfl, ok⟩, l128, r129, l130, r131, r132, r133⟩
        refine ⟨_, rfl, fun a E => ?_⟩
        refine wpList_nil ?_
        obtain rfl := sj hF
        exact ⟨rfl, ⟨m108, le_m0, ok, E.keep [0, 2, 3], l128, r129, l130, r131, r132, r133, r34, r89⟩⟩
      replace hF := cond_t hc109 hF
      refine c_region <| lv E ok (y_move rfl) fun a E => ?_
      obtain ⟨r110, e111, hF⟩ := bnd hF
      refine l_call E go_113 rfl (calqueref08_parser_fail_w N 2 (show InR .i64 (2) by decide) r87.2 l90 r91 l92 r93 r94 r95 e111 hG ok) rfl rfl ?_
      rintro _ w ⟨⟨rfl, ok⟩, l112, r113, l114, r115, r116, r117⟩
      refine ⟨_, rfl, fun a E => ?_⟩
      refine wn <| c_region <| lv E ok (y_move rfl) fun a E => ?_
      obtain ⟨r118, e119, hF⟩ := bnd hF
      refine l_call E go_111 rfl (calqueref08_parser_step_w N r110 l112 r113 l114 r115 r116 r117 e119 hG ok) rfl rfl ?_
      rintro _ w ⟨⟨rfl, ok⟩, l120, r121, l122, r123, r124, r125⟩
      refine ⟨_, rfl, fun a E => ?_⟩
      refine wpList_nil ?_
      obtain rfl := sj hF
      exact ⟨rfl, ⟨m108, le_m0, ok, E.keep [0, 2, 3], l120, r121, l122, r123, r124, r125, r34, r89⟩⟩
  clear hJ
  intro e a w hO
  obtain ⟨rfl, m134, hle, ok, E, l135, r136, l137, r138, r139, r140, r141, r142⟩ := hO
  have le_m0 := le_m0.trans hle
  refine t_norm <| sg <| lv E ok (y_move rfl) fun a E => ?_
  obtain ⟨r143, e144, hF⟩ := bnd hF
  refine l_call E go_115 rfl (calqueref08_parser_is_w N ([33, 61]) (show ([33, 61] : List UInt8).length ≤ LIMS by decide) o68.1 l135 r136 l137 r138 r139 r140 e144 hG ok) rfl rfl ?_
  rintro _ w ⟨rfl, ok⟩
  refine ⟨_, rfl, fun a E => ?_⟩
  refine lv E ok (y_fieldAddr fo_69_2 rfl) fun a E => l_storeB E ok 1 rfl rfl rfl inf_4 rfl rfl ⟨rfl, trivial⟩ rfl rfl fun w ok => wn <| wp_seq <| sg <| lv E ok (y_move rfl) fun a E => ?_
  obtain ⟨r145, e146, hF⟩ := bnd hF
  refine l_call E go_115 rfl (calqueref08_parser_is_w N ([61]) (show ([61] : List UInt8).length ≤ LIMS by decide) o68.1 l135 r136 l137 r138 r139 r140 e146 hG ok) rfl rfl ?_
  rintro _ w ⟨rfl, ok⟩
  refine ⟨_, rfl, fun a E => ?_⟩
  refine lv E ok (y_not rfl) fun a E => lv E ok (y_move rfl) fun a E => bsplit (!r145) (fun hc147 => ?_) (fun hc147 => ?_)
  rotate_left
  · as_aux_lemma =>
      replace hF := cond_f hc147 hF
      replace E := E.upd 49 hc147 rfl
      refine ls E fun a E => ls E fun a E => ls E fun a E => lv E ok (y_pickF rfl rfl) fun a E => wn <| c_if E rfl (fun h => by cases h) (fun _ => ?_)
      refine wp_skip <| t_norm <| sg <| lv E ok (y_move rfl) fun a E => ?_
      obtain ⟨r541, e542, hF⟩ := bnd hF
      refine l_call E go_111 rfl (calqueref08_parser_step_w N o68.1 l135 r136 l137 r138 r139 r140 e542 hG ok) rfl rfl ?_
      rintro _ w ⟨⟨rfl, ok⟩, l543, r544, l545, r546, r547, r548⟩
      refine ⟨_, rfl, fun a E => ?_⟩
      refine wn <| wp_seq ?_
      obtain ⟨o549, hJ, hF⟩ := bnd hF
      refine c_mono (Q' := fun e a w => e = .normal ∧ ∃ m550 c559 M560, m134.le m550 ∧ Ok u m550 (M560 :: [(pb0, Obj.cells [(Value.string (bs o549.1.s)), (Value.int .i64 o549.1.to_), (Value.string (bs o549.1.w.text)), (Value.int .i64 o549.1.w.at_), (Value.int .i64 o549.1.at_), (Value.int .i64 o549.1.e)].toArray 165 (0, 0))] :: [(b14, Obj.cells [(Value.int .i64 o549.2.Operand), (Value.int .i64 o549.2.Mod), (Value.bool o549.2.Not), c559].toArray 69 (0, 0))] :: [(b13, Obj.cells [(Value.int .i64 0), (Value.int .i64 0), (Value.bool false), (Value.slice none 0 0)].toArray 69 (0, 0))] :: S) w ∧ Env 103 a [(0, (Value.pointer (some ⟨pb0, 0, none⟩))), (2, (Value.pointer (some ⟨b13, 0, none⟩))), (3, (Value.pointer (some ⟨b14, 0, none⟩)))] ∧ o549.1.s.length ≤ LIMS ∧ InR .i64 o549.1.to_ ∧ o549.1.w.text.length ≤ LIMS ∧ InR .i64 o549.1.w.at_ ∧ InR .i64 o549.1.at_ ∧ InR .i64 o549.1.e ∧ InR .i64 o549.2.Operand ∧ InR .i64 o549.2.Mod ∧ ORow 126 2 pSpan m550 c559 o549.2.Spans M560) ?_ ?_
      · replace hF := hJ
        clear hJ
        have le_m134 := Mem.le.refl m134
        obtain ⟨r562, e563, hF⟩ := bnd hF
        obtain ⟨l580, e581, hF⟩ := bnd hF
        obtain rfl := sj hF
        refine k_begin [1, 4] (Cls u m134 ([(b14, Obj.cells [(Value.int .i64 o68.2.Operand), (Value.int .i64 o68.2.Mod), (Value.bool r143), (Value.slice none 0 0)].toArray 69 (0, 0))] :: [(b13, Obj.cells [(Value.int .i64 0), (Value.int .i64 0), (Value.bool false), (Value.slice none 0 0)].toArray 69 (0, 0))] :: [])) (Cls u m134 ([(b13, Obj.cells [(Value.int .i64 0), (Value.int .i64 0), (Value.bool false), (Value.slice none 0 0)].toArray 69 (0, 0))] :: [])) (by kernel_rfl) ?_
        intro w hw
        replace ok := okdrew ok hw
        clear hw
        refine k_next (cl1 ⟨m134, _, le_m134, ok, ⟨memAt 1 rfl, memAt 2 rfl, trivial⟩⟩ ⟨m134, _, le_m134, ok, ⟨memAt 2 rfl, trivial⟩⟩) fun hT => kt 0 E rfl hT (y_fieldAddr fo_69_3 rfl) fun a E => k_takeN 1 E rfl (by kernel_rfl) nP hT (y_load one_67 rfl (Holds.cown 0 rfl rfl)) rfl rfl fun a E => kt 2 E rfl hT (y_move rfl) fun a E => kt 3 E rfl hT (y_fieldAddr fo_69_0 rfl) fun a E => k_takeN 4 E rfl (by kernel_rfl) nP hT (y_load one_3 rfl (Holds.cown 0 rfl rfl)) rfl rfl fun a E => k_all [5] (by kernel_rfl) rfl (one_c ?_)
        · refine wpOp_of_list (o := _) rfl <| l_call E go_144 rfl (calqueref08_parser_span_w N o68.2.Operand r141 r541 l543 r544 l545 r546 r547 r548 e563 hG ok) rfl rfl ?_
          rintro _ w ⟨m585, vs586, rfl, hle, ok, h587, l588, r589, l590, r591, r592, r593⟩
          have le_m0 := le_m0.trans hle
          have le_m134 := le_m134.trans hle
          obtain ⟨rfl, r594, r595⟩ := h587
          refine ⟨_, rfl, fun a E => ?_⟩
          refine wn <| k_next (cl1 ⟨m585, _, le_m134, ok, ⟨memAt 1 rfl, memAt 2 rfl, trivial⟩⟩ ⟨m585, _, le_m134, ok, ⟨memAt 2 rfl, trivial⟩⟩) fun hT => k_all [6] (by kernel_rfl) rfl (one_c ?_)
          · refine wpOp_of_list (o := _) rfl <| l_slit (R := pSpan) (xo := [.tmp 63]) (xs := ([r562.1] : List (Span))) E ok sl_67 zero_126 rfl ⟨⟨_, rfl, rfl, ⟨rfl, r594, r595⟩⟩, trivial⟩ rfl rfl rfl rfl fun c596 M597 a w E ok h598 => wn <| k_next (cl1 ⟨m585, _, le_m134, ok, ⟨memAt 2 rfl, memAt 3 rfl, trivial⟩⟩ ⟨m585, _, le_m134, ok, ⟨memAt 3 rfl, trivial⟩⟩) fun hT => k_all [7] (by kernel_rfl) rfl (one_c ?_)
            · refine wpOp_of_list (o := _) rfl ?_
              obtain ⟨M599, ok, h600⟩ := nilrow (e := 126) (k := 2) (R := pSpan) ok
              refine l_app (R := pSpan) E ok 0 mSpan sl_67 Tryz.underlying67 rfl h600 (SrcOK.ofRow h598 1 rfl ok) e581 ⟨_, zero_126, rfl⟩ rfl rfl rfl rfl fun c601 M602 a w E ok h603 => wn <| k_next (cl1 ⟨m585, _, le_m134, ok, ⟨memAt 3 rfl, memAt 4 rfl, trivial⟩⟩ ⟨m585, _, le_m134, ok, ⟨memAt 4 rfl, trivial⟩⟩) fun hT => kt 8 E rfl hT (y_fieldAddr fo_69_3 rfl) fun a E => k_all [9] (by kernel_rfl) rfl (one_c ?_)
              · refine wpOp_of_list (o := _) rfl <| l_storeB E ok 3 rfl rfl rfl inf_67 (ORow.cells h603) rfl ⟨(ORow.one h603), trivial⟩ rfl rfl fun w ok => wn <| k_next (cl2 (by kernel_rfl) ⟨m585, _, le_m134, ok, ⟨memAt 4 rfl, trivial⟩⟩) fun hT => k_done (by kernel_rfl) ?_
                exact ⟨rfl, ⟨m585, c601, M602, le_m134, (ok.pk 5 [0, 2, 3, 4] rfl (by decide)), E.keep [0, 2, 3], l588, r589, l590, r591, r592, r593, r141, r142, h603⟩⟩
      clear hJ
      intro e a w hO
      obtain ⟨rfl, m604, c613, M614, hle, ok, E, l605, r606, l607, r608, r609, r610, r611, r612, h615⟩ := hO
      have le_m0 := le_m0.trans hle
      refine t_norm <| wp_seq <| wp_block ?_
      obtain ⟨o627, hL, hF⟩ := bnd hF
      refine c_loop _ (fun (s : Parser × Relation) a w => ∃ m628 c637 M638, m604.le m628 ∧ Ok u m628 (M638 :: [(pb0, Obj.cells [(Value.string (bs s.1.s)), (Value.int .i64 s.1.to_), (Value.string (bs s.1.w.text)), (Value.int .i64 s.1.w.at_), (Value.int .i64 s.1.at_), (Value.int .i64 s.1.e)].toArray 165 (0, 0))] :: [(b14, Obj.cells [(Value.int .i64 s.2.Operand), (Value.int .i64 s.2.Mod), (Value.bool s.2.Not), c637].toArray 69 (0, 0))] :: [(b13, Obj.cells [(Value.int .i64 0), (Value.int .i64 0), (Value.bool false), (Value.slice none 0 0)].toArray 69 (0, 0))] :: S) w ∧ Env 103 a [(0, (Value.pointer (some ⟨pb0, 0, none⟩))), (2, (Value.pointer (some ⟨b13, 0, none⟩))), (3, (Value.pointer (some ⟨b14, 0, none⟩)))] ∧ s.1.s.length ≤ LIMS ∧ InR .i64 s.1.to_ ∧ s.1.w.text.length ≤ LIMS ∧ InR .i64 s.1.w.at_ ∧ InR .i64 s.1.at_ ∧ InR .i64 s.1.e ∧ InR .i64 s.2.Operand ∧ InR .i64 s.2.Mod ∧ ORow 126 2 pSpan m628 c637 s.2.Spans M638) (fun (b : (Relation × Parser)) e a w => e = (.exit 2) ∧ ∃ m900 c903 M904, m604.le m900 ∧ Ok u m900 (M904 :: [(pb0, Obj.cells [(Value.string (bs b.2.s)), (Value.int .i64 b.2.to_), (Value.string (bs b.2.w.text)), (Value.int .i64 b.2.w.at_), (Value.int .i64 b.2.at_), (Value.int .i64 b.2.e)].toArray 165 (0, 0))] :: [(b14, Obj.cells [(Value.int .i64 b.1.Operand), (Value.int .i64 b.1.Mod), (Value.bool b.1.Not), c903].toArray 69 (0, 0))] :: [(b13, Obj.cells [(Value.int .i64 0), (Value.int .i64 0), (Value.bool false), (Value.slice none 0 0)].toArray 69 (0, 0))] :: S) w ∧ Env 103 a [(2, (Value.pointer (some ⟨b13, 0, none⟩))), (3, (Value.pointer (some ⟨b14, 0, none⟩)))] ∧ InR .i64 b.1.Operand ∧ InR .i64 b.1.Mod ∧ ORow 126 2 pSpan m900 c903 b.1.Spans M904 ∧ b.2.s.length ≤ LIMS ∧ InR .i64 b.2.to_ ∧ b.2.w.text.length ≤ LIMS ∧ InR .i64 b.2.w.at_ ∧ InR .i64 b.2.at_ ∧ InR .i64 b.2.e) ?_ ?_ N _ a w hL ⟨m604, c613, M614, Mem.le.refl _, ok, E.keep [0, 2, 3], l605, r606, l607, r608, r609, r610, r611, r612, h615⟩
      rotate_left
      · intro e a w _ hO
        obtain ⟨rfl, m886, c889, M890, hle, ok, E, r887, r888, h891, l892, r893, l894, r895, r896, r897⟩ := hO
        have le_m0 := le_m0.trans hle
        refine b_hit <| t_norm <| sg <| lv E ok (y_loadAgg (cs := [(Value.int .i64 o627.1.Operand), (Value.int .i64 o627.1.Mod), (Value.bool o627.1.Not), c889]) agg_69 rfl rfl (Holds.own 2 rfl rfl)) fun a E => l_storeB E ok 3 rfl rfl rfl inf_69 rfl rfl ⟨rfl, rfl, rfl, (ORow.one h891), trivial⟩ rfl rfl fun w ok => wn ?_
        refine wp_ret ?_
        obtain ⟨m898, hle, ok, hfz⟩ := (ok.frs 0 rfl).freeze
        have h899 := ORow.froz mSpan h891 hle hfz (by decide)
        have le_m0 := le_m0.trans hle
        have hret : calqueref08_parser_relation_R u m0 S pb0 x0 (o627.1, o627.2) a w := ⟨m898, [(Value.int .i64 o627.1.Operand), (Value.int .i64 o627.1.Mod), (Value.bool o627.1.Not), c889], le_m0, (ok.pk 3 [0] rfl (by decide)), E.d, ⟨rv_c (cs := [(Value.int .i64 o627.1.Operand), (Value.int .i64 o627.1.Mod), (Value.bool o627.1.Not), c889]) E ok rfl agg_69 rfl (Holds.own 2 rfl rfl), trivial⟩, ⟨_, rfl, r887, r888, h899⟩, l892, r893, l894, r895, r896, r897⟩
        obtain rfl := sj hF
        exact fin _ _ hret
      rintro ⟨x_640, x_641⟩ a w r ⟨m642, c651, M652, hle, ok, E, l643, r644, l645, r646, r647, r648, r649, r650, h653⟩ hF
      replace hF : calqueref08_parser_relation_b3 N x_640 x_641 = some r := hF
      unfold calqueref08_parser_relation_b3 at hF
      have le_m604 := Mem.le.refl m604
      have le_m0 := le_m0.trans hle
      have le_m604 := le_m604.trans hle
      refine wp_seq <| sg <| lv E ok (y_move rfl) fun a E => ?_
      obtain ⟨r654, e655, hF⟩ := bnd hF
      replace ok : Ok u m642 ([(pb0, Obj.cells [(Value.string (bs x_640.s)), (Value.int .i64 x_640.to_), (Value.string (bs x_640.w.text)), (Value.int .i64 x_640.w.at_), (Value.int .i64 x_640.at_), (Value.int .i64 x_640.e)].toArray 165 (0, 0))] :: M652 :: [(b14, Obj.cells [(Value.int .i64 x_641.Operand), (Value.int .i64 x_641.Mod), (Value.bool x_641.Not), c651].toArray 69 (0, 0))] :: [(b13, Obj.cells [(Value.int .i64 0), (Value.int .i64 0), (Value.bool false), (Value.slice none 0 0)].toArray 69 (0, 0))] :: S) w := (ok.pk 4 [1, 0, 2, 3] rfl (by decide))
      refine l_call E go_115 rfl (calqueref08_parser_is_w N ([44]) (show ([44] : List UInt8).length ≤ LIMS by decide) x_640 l643 r644 l645 r646 r647 r648 e655 hG ok) rfl rfl ?_
      rintro _ w ⟨rfl, ok⟩
      refine ⟨_, rfl, fun a E => ?_⟩
      refine wn <| c_if E rfl (fun hc656 => ?_) (fun hc656 => ?_)
      rotate_left
      · replace hF := cond_f hc656 hF
        refine wp_exit <| t_exit ?_
        obtain rfl := sj hF
        exact step_o (by nofun) (⟨rfl, ⟨m642, c651, M652, le_m604, (ok.pk 4 [1, 0, 2, 3] rfl (by decide)), E.keep [2, 3], r649, r650, h653, l643, r644, l645, r646, r647, r648⟩⟩)
      replace hF := cond_t hc656 hF
      refine wp_skip <| t_norm <| wp_block <| sg <| lv E ok (y_move rfl) fun a E => ?_
      obtain ⟨r657, e658, hF⟩ := bnd hF
      refine l_call E go_111 rfl (calqueref08_parser_step_w N x_640 l643 r644 l645 r646 r647 r648 e658 hG ok) rfl rfl ?_
      rintro _ w ⟨⟨rfl, ok⟩, l659, r660, l661, r662, r663, r664⟩
      refine ⟨_, rfl, fun a E => ?_⟩
      refine wn <| wp_seq <| wp_seq <| c_draw (by kernel_rfl) (by kernel_rfl) ok <| qv E (y_fieldAddr fo_69_3 rfl) fun a E => qv E (y_load one_67 rfl (Holds.own 2 rfl rfl)) fun a E => qv E (y_lenR sl_67 h653 rfl) fun a E => ?_
      refine qv E (y_eql rfl rfl) fun a E => qv E (y_move rfl) fun a E => bsplit ((x_641.Spans.length : Int) == 4) (fun hc665 => ?_) (fun hc665 => ?_)
      rotate_left
      · as_aux_lemma =>
          replace hF := cond_f hc665 hF
          replace E := E.upd 75 hc665 rfl
          refine qs E fun a E => qs E fun a E => qv E (y_pickF rfl rfl) fun a E => qv E (y_move rfl) fun a E => qs E fun a E => qs E fun a E => qs E fun a E => qs E fun a E => ?_
          refine qs E fun a E => qs E fun a E => qs E fun a E => qs E fun a E => qs E fun a E => qs E fun a E => qv E (y_pickF rfl rfl) fun a E => wpQuiet_nil ?_
          intro w ok
          refine t_norm <| c_if E rfl (fun h => by cases h) (fun _ => ?_)
          refine wp_skip <| t_norm ?_
          obtain ⟨o823, hJ, hF⟩ := bnd hF
          refine c_mono (Q' := fun e a w => e = .normal ∧ ∃ m824 c833 M834, m642.le m824 ∧ Ok u m824 ([(pb0, Obj.cells [(Value.string (bs o823.1.s)), (Value.int .i64 o823.1.to_), (Value.string (bs o823.1.w.text)), (Value.int .i64 o823.1.w.at_), (Value.int .i64 o823.1.at_), (Value.int .i64 o823.1.e)].toArray 165 (0, 0))] :: M834 :: [(b14, Obj.cells [(Value.int .i64 o823.2.Operand), (Value.int .i64 o823.2.Mod), (Value.bool o823.2.Not), c833].toArray 69 (0, 0))] :: [(b13, Obj.cells [(Value.int .i64 0), (Value.int .i64 0), (Value.bool false), (Value.slice none 0 0)].toArray 69 (0, 0))] :: S) w ∧ Env 103 a [(0, (Value.pointer (some ⟨pb0, 0, none⟩))), (2, (Value.pointer (some ⟨b13, 0, none⟩))), (3, (Value.pointer (some ⟨b14, 0, none⟩)))] ∧ o823.1.s.length ≤ LIMS ∧ InR .i64 o823.1.to_ ∧ o823.1.w.text.length ≤ LIMS ∧ InR .i64 o823.1.w.at_ ∧ InR .i64 o823.1.at_ ∧ InR .i64 o823.1.e ∧ InR .i64 o823.2.Operand ∧ InR .i64 o823.2.Mod ∧ ORow 126 2 pSpan m824 c833 o823.2.Spans M834) ?_ ?_
          rotate_left
          · clear hJ
            intro e a w hO
            obtain ⟨rfl, m874, c883, M884, hle, ok, E, l875, r876, l877, r878, r879, r880, r881, r882, h885⟩ := hO
            have le_m0 := le_m0.trans hle
            have le_m604 := le_m604.trans hle
            refine b_norm ?_
            obtain rfl := sj hF
            exact step_n ⟨m874, c883, M884, le_m604, (ok.pk 4 [1, 0, 2, 3] rfl (by decide)), E.keep [0, 2, 3], l875, r876, l877, r878, r879, r880, r881, r882, h885⟩
          replace hF := hJ
          clear hJ
          have le_m642 := Mem.le.refl m642
          obtain ⟨r836, e837, hF⟩ := bnd hF
          obtain ⟨l852, e853, hF⟩ := bnd hF
          obtain rfl := sj hF
          refine k_begin [1, 4] (Cls u m642 ([(b14, Obj.cells [(Value.int .i64 x_641.Operand), (Value.int .i64 x_641.Mod), (Value.bool x_641.Not), c651].toArray 69 (0, 0))] :: [(b13, Obj.cells [(Value.int .i64 0), (Value.int .i64 0), (Value.bool false), (Value.slice none 0 0)].toArray 69 (0, 0))] :: [])) (Cls u m642 ([(b13, Obj.cells [(Value.int .i64 0), (Value.int .i64 0), (Value.bool false), (Value.slice none 0 0)].toArray 69 (0, 0))] :: [])) (by kernel_rfl) ?_
          intro w hw
          replace ok := okdrew ok hw
          clear hw
          refine k_next (cl1 ⟨m642, _, le_m642, ok, ⟨memAt 2 rfl, memAt 3 rfl, trivial⟩⟩ ⟨m642, _, le_m642, ok, ⟨memAt 3 rfl, trivial⟩⟩) fun hT => kt 0 E rfl hT (y_fieldAddr fo_69_3 rfl) fun a E => k_takeN 1 E rfl (by kernel_rfl) nP hT (y_load one_67 rfl (Holds.cown 0 rfl rfl)) rfl rfl fun a E => kt 2 E rfl hT (y_move rfl) fun a E => kt 3 E rfl hT (y_fieldAddr fo_69_0 rfl) fun a E => k_takeN 4 E rfl (by kernel_rfl) nP hT (y_load one_3 rfl (Holds.cown 0 rfl rfl)) rfl rfl fun a E => k_all [5] (by kernel_rfl) rfl (one_c ?_)
          · refine wpOp_of_list (o := _) rfl <| l_call E go_144 rfl (calqueref08_parser_span_w N x_641.Operand r649 r657 l659 r660 l661 r662 r663 r664 e837 hG ok) rfl rfl ?_
            rintro _ w ⟨m857, vs858, rfl, hle, ok, h859, l860, r861, l862, r863, r864, r865⟩
            have le_m0 := le_m0.trans hle
            have le_m604 := le_m604.trans hle
            have le_m642 := le_m642.trans hle
            have h653 := ORow.up mSpan hle h653
            obtain ⟨rfl, r866, r867⟩ := h859
            refine ⟨_, rfl, fun a E => ?_⟩
            refine wn <| k_next (cl1 ⟨m857, _, le_m642, ok, ⟨memAt 2 rfl, memAt 3 rfl, trivial⟩⟩ ⟨m857, _, le_m642, ok, ⟨memAt 3 rfl, trivial⟩⟩) fun hT => k_all [6] (by kernel_rfl) rfl (one_c ?_)
            · refine wpOp_of_list (o := _) rfl <| l_slit (R := pSpan) (xo := [.tmp 98]) (xs := ([r836.1] : List (Span))) E ok sl_67 zero_126 rfl ⟨⟨_, rfl, rfl, ⟨rfl, r866, r867⟩⟩, trivial⟩ rfl rfl rfl rfl fun c868 M869 a w E ok h870 => wn <| k_next (cl1 ⟨m857, _, le_m642, ok, ⟨memAt 3 rfl, memAt 4 rfl, trivial⟩⟩ ⟨m857, _, le_m642, ok, ⟨memAt 4 rfl, trivial⟩⟩) fun hT => k_all [7] (by kernel_rfl) rfl (one_c ?_)
              · refine wpOp_of_list (o := _) rfl <| l_app (R := pSpan) E ok 2 mSpan sl_67 Tryz.underlying67 rfl h653 (SrcOK.ofRow h870 0 rfl ok) e853 ⟨_, zero_126, rfl⟩ rfl rfl rfl rfl fun c871 M872 a w E ok h873 => wn <| k_next (cl1 ⟨m857, _, le_m642, ok, ⟨memAt 3 rfl, memAt 4 rfl, trivial⟩⟩ ⟨m857, _, le_m642, ok, ⟨memAt 4 rfl, trivial⟩⟩) fun hT => kt 8 E rfl hT (y_fieldAddr fo_69_3 rfl) fun a E => k_all [9] (by kernel_rfl) rfl (one_c ?_)
                · refine wpOp_of_list (o := _) rfl <| l_storeB E ok 3 rfl rfl rfl inf_67 (ORow.cells h873) rfl ⟨(ORow.one h873), trivial⟩ rfl rfl fun w ok => wn <| k_next (cl2 (by kernel_rfl) ⟨m857, _, le_m642, ok, ⟨memAt 4 rfl, trivial⟩⟩) fun hT => k_done (by kernel_rfl) ?_
                  exact ⟨rfl, ⟨m857, c871, M872, le_m642, (ok.pk 5 [1, 2, 3, 4] rfl (by decide)), E.keep [0, 2, 3], l860, r861, l862, r863, r864, r865, r649, r650, h873⟩⟩
      replace hF := cond_t hc665 hF
      replace E := E.upd 75 hc665 rfl
      refine qv E (y_move rfl) fun a E => ?_
      obtain ⟨r666, e667, hF⟩ := bnd hF
      refine q_call E (v := (Value.bool r666)) go_145 rfl (fun w ok => ?_) rfl rfl fun a E => ?_
      · refine Calls.mono (calqueref08_parser_digit_w N r657 l659 r660 l661 r662 r663 r664 e667 hG ok) fun _ _ hz => ?_
        obtain ⟨hz1, okz⟩ := hz
        exact ⟨hz1, okz⟩
      refine qv E (y_pickT rfl rfl) fun a E => qv E (y_move rfl) fun a E => bsplit r666 (fun hc668 => ?_) (fun hc668 => ?_)
      rotate_left
      · replace hF := cond_f hc668 hF
        replace E := E.upd 79 hc668 rfl
        refine qs E fun a E => qs E fun a E => qs E fun a E => qs E fun a E => qs E fun a E => qs E fun a E => qs E fun a E => qs E fun a E => ?_
        refine qs E fun a E => qs E fun a E => qv E (y_pickF rfl rfl) fun a E => wpQuiet_nil ?_
        intro w ok
        refine t_norm <| c_if E rfl (fun h => by cases h) (fun _ => ?_)
        refine wp_skip <| t_norm ?_
        obtain ⟨o760, hJ, hF⟩ := bnd hF
        refine c_mono (Q' := fun e a w => e = .normal ∧ ∃ m761 c770 M771, m642.le m761 ∧ Ok u m761 ([(pb0, Obj.cells [(Value.string (bs o760.1.s)), (Value.int .i64 o760.1.to_), (Value.string (bs o760.1.w.text)), (Value.int .i64 o760.1.w.at_), (Value.int .i64 o760.1.at_), (Value.int .i64 o760.1.e)].toArray 165 (0, 0))] :: M771 :: [(b14, Obj.cells [(Value.int .i64 o760.2.Operand), (Value.int .i64 o760.2.Mod), (Value.bool o760.2.Not), c770].toArray 69 (0, 0))] :: [(b13, Obj.cells [(Value.int .i64 0), (Value.int .i64 0), (Value.bool false), (Value.slice none 0 0)].toArray 69 (0, 0))] :: S) w ∧ Env 103 a [(0, (Value.pointer (some ⟨pb0, 0, none⟩))), (2, (Value.pointer (some ⟨b13, 0, none⟩))), (3, (Value.pointer (some ⟨b14, 0, none⟩)))] ∧ o760.1.s.length ≤ LIMS ∧ InR .i64 o760.1.to_ ∧ o760.1.w.text.length ≤ LIMS ∧ InR .i64 o760.1.w.at_ ∧ InR .i64 o760.1.at_ ∧ InR .i64 o760.1.e ∧ InR .i64 o760.2.Operand ∧ InR .i64 o760.2.Mod ∧ ORow 126 2 pSpan m761 c770 o760.2.Spans M771) ?_ ?_
        rotate_left
        · clear hJ
          intro e a w hO
          obtain ⟨rfl, m811, c820, M821, hle, ok, E, l812, r813, l814, r815, r816, r817, r818, r819, h822⟩ := hO
          have le_m0 := le_m0.trans hle
          have le_m604 := le_m604.trans hle
          refine b_norm ?_
          obtain rfl := sj hF
          exact step_n ⟨m811, c820, M821, le_m604, (ok.pk 4 [1, 0, 2, 3] rfl (by decide)), E.keep [0, 2, 3], l812, r813, l814, r815, r816, r817, r818, r819, h822⟩
        replace hF := hJ
        clear hJ
        have le_m642 := Mem.le.refl m642
        obtain ⟨r773, e774, hF⟩ := bnd hF
        obtain ⟨l789, e790, hF⟩ := bnd hF
        obtain rfl := sj hF
        refine k_begin [1, 4] (Cls u m642 ([(b14, Obj.cells [(Value.int .i64 x_641.Operand), (Value.int .i64 x_641.Mod), (Value.bool x_641.Not), c651].toArray 69 (0, 0))] :: [(b13, Obj.cells [(Value.int .i64 0), (Value.int .i64 0), (Value.bool false), (Value.slice none 0 0)].toArray 69 (0, 0))] :: [])) (Cls u m642 ([(b13, Obj.cells [(Value.int .i64 0), (Value.int .i64 0), (Value.bool false), (Value.slice none 0 0)].toArray 69 (0, 0))] :: [])) (by kernel_rfl) ?_
        intro w hw
        replace ok := okdrew ok hw
        clear hw
        refine k_next (cl1 ⟨m642, _, le_m642, ok, ⟨memAt 2 rfl, memAt 3 rfl, trivial⟩⟩ ⟨m642, _, le_m642, ok, ⟨memAt 3 rfl, trivial⟩⟩) fun hT => kt 0 E rfl hT (y_fieldAddr fo_69_3 rfl) fun a E => k_takeN 1 E rfl (by kernel_rfl) nP hT (y_load one_67 rfl (Holds.cown 0 rfl rfl)) rfl rfl fun a E => kt 2 E rfl hT (y_move rfl) fun a E => kt 3 E rfl hT (y_fieldAddr fo_69_0 rfl) fun a E => k_takeN 4 E rfl (by kernel_rfl) nP hT (y_load one_3 rfl (Holds.cown 0 rfl rfl)) rfl rfl fun a E => k_all [5] (by kernel_rfl) rfl (one_c ?_)
        · refine wpOp_of_list (o := _) rfl <| l_call E go_144 rfl (calqueref08_parser_span_w N x_641.Operand r649 r657 l659 r660 l661 r662 r663 r664 e774 hG ok) rfl rfl ?_
          rintro _ w ⟨m794, vs795, rfl, hle, ok, h796, l797, r798, l799, r800, r801, r802⟩
          have le_m0 := le_m0.trans hle
          have le_m604 := le_m604.trans hle
          have le_m642 := le_m642.trans hle
          have h653 := ORow.up mSpan hle h653
          obtain ⟨rfl, r803, r804⟩ := h796
          refine ⟨_, rfl, fun a E => ?_⟩
          refine wn <| k_next (cl1 ⟨m794, _, le_m642, ok, ⟨memAt 2 rfl, memAt 3 rfl, trivial⟩⟩ ⟨m794, _, le_m642, ok, ⟨memAt 3 rfl, trivial⟩⟩) fun hT => k_all [6] (by kernel_rfl) rfl (one_c ?_)
          · refine wpOp_of_list (o := _) rfl <| l_slit (R := pSpan) (xo := [.tmp 98]) (xs := ([r773.1] : List (Span))) E ok sl_67 zero_126 rfl ⟨⟨_, rfl, rfl, ⟨rfl, r803, r804⟩⟩, trivial⟩ rfl rfl rfl rfl fun c805 M806 a w E ok h807 => wn <| k_next (cl1 ⟨m794, _, le_m642, ok, ⟨memAt 3 rfl, memAt 4 rfl, trivial⟩⟩ ⟨m794, _, le_m642, ok, ⟨memAt 4 rfl, trivial⟩⟩) fun hT => k_all [7] (by kernel_rfl) rfl (one_c ?_)
            · refine wpOp_of_list (o := _) rfl <| l_app (R := pSpan) E ok 2 mSpan sl_67 Tryz.underlying67 rfl h653 (SrcOK.ofRow h807 0 rfl ok) e790 ⟨_, zero_126, rfl⟩ rfl rfl rfl rfl fun c808 M809 a w E ok h810 => wn <| k_next (cl1 ⟨m794, _, le_m642, ok, ⟨memAt 3 rfl, memAt 4 rfl, trivial⟩⟩ ⟨m794, _, le_m642, ok, ⟨memAt 4 rfl, trivial⟩⟩) fun hT => kt 8 E rfl hT (y_fieldAddr fo_69_3 rfl) fun a E => k_all [9] (by kernel_rfl) rfl (one_c ?_)
              · refine wpOp_of_list (o := _) rfl <| l_storeB E ok 3 rfl rfl rfl inf_67 (ORow.cells h810) rfl ⟨(ORow.one h810), trivial⟩ rfl rfl fun w ok => wn <| k_next (cl2 (by kernel_rfl) ⟨m794, _, le_m642, ok, ⟨memAt 4 rfl, trivial⟩⟩) fun hT => k_done (by kernel_rfl) ?_
                exact ⟨rfl, ⟨m794, c808, M809, le_m642, (ok.pk 5 [1, 2, 3, 4] rfl (by decide)), E.keep [0, 2, 3], l797, r798, l799, r800, r801, r802, r649, r650, h810⟩⟩
      replace hF := cond_t hc668 hF
      replace E := E.upd 79 hc668 rfl
      refine qv E (y_move rfl) fun a E => qv E (y_nilCheck rfl) fun a E => qv E (y_fieldAddr fo_165_2 rfl) fun a E => qv E (y_fieldAddr fo_163_0 rfl) fun a E => qv E (y_load one_9 rfl (Holds.own 0 rfl rfl)) fun a E => ?_
      obtain ⟨r669, e670, hF⟩ := bnd hF
      obtain ⟨_, _, ⟨_, _⟩, r671⟩ := Go.X.Calls.get (calqueref07_Value_w N r657.w.text l661 e670 hG ok)
      refine q_call E go_146 rfl (fun w ok => (calqueref07_Value_w N r657.w.text l661 e670 hG ok).mono (fun _ _ h => h.1)) rfl rfl fun a E => qv E (y_fieldAddr fo_69_0 rfl) fun a E => qv E (y_load one_3 rfl (Holds.own 2 rfl rfl)) fun a E => ?_
      obtain ⟨r672, e673, hF⟩ := bnd hF
      obtain ⟨_, _, ⟨_, _⟩, r674⟩ := Go.X.Calls.get (calqueref08_Bound_w N x_641.Operand r649 e673 hG ok)
      refine q_call E go_103 rfl (fun w ok => (calqueref08_Bound_w N x_641.Operand r649 e673 hG ok).mono (fun _ _ h => h.1)) rfl rfl fun a E => qv E (y_leq rfl rfl) fun a E => qv E (y_pickT rfl rfl) fun a E => wpQuiet_nil ?_
      intro w ok
      refine t_norm ?_
      obtain ⟨o675, hJ, hF⟩ := bnd hF
      refine c_mono (Q' := fun e a w => e = .normal ∧ Ok u m642 ([(pb0, Obj.cells [(Value.string (bs o675.s)), (Value.int .i64 o675.to_), (Value.string (bs o675.w.text)), (Value.int .i64 o675.w.at_), (Value.int .i64 o675.at_), (Value.int .i64 o675.e)].toArray 165 (0, 0))] :: M652 :: [(b14, Obj.cells [(Value.int .i64 x_641.Operand), (Value.int .i64 x_641.Mod), (Value.bool x_641.Not), c651].toArray 69 (0, 0))] :: [(b13, Obj.cells [(Value.int .i64 0), (Value.int .i64 0), (Value.bool false), (Value.slice none 0 0)].toArray 69 (0, 0))] :: S) w ∧ Env 103 a [(0, (Value.pointer (some ⟨pb0, 0, none⟩))), (2, (Value.pointer (some ⟨b13, 0, none⟩))), (3, (Value.pointer (some ⟨b14, 0, none⟩)))] ∧ o675.s.length ≤ LIMS ∧ InR .i64 o675.to_ ∧ o675.w.text.length ≤ LIMS ∧ InR .i64 o675.w.at_ ∧ InR .i64 o675.at_ ∧ InR .i64 o675.e) ?_ ?_
      · replace hF := hJ
        clear hJ
        refine c_if E rfl (fun hc682 => ?_) (fun hc682 => ?_)
        rotate_left
        · replace hF := cond_f hc682 hF
          refine wp_skip ?_
          obtain rfl := sj hF
          exact ⟨rfl, ⟨ok, E.keep [0, 2, 3], l659, r660, l661, r662, r663, r664⟩⟩
        replace hF := cond_t hc682 hF
        refine c_region <| lv E ok (y_move rfl) fun a E => ?_
        obtain ⟨r683, e684, hF⟩ := bnd hF
        refine l_call E go_113 rfl (calqueref08_parser_fail_w N 6 (show InR .i64 (6) by decide) r657 l659 r660 l661 r662 r663 r664 e684 hG ok) rfl rfl ?_
        rintro _ w ⟨⟨rfl, ok⟩, l685, r686, l687, r688, r689, r690⟩
        refine ⟨_, rfl, fun a E => ?_⟩
        refine wpList_nil ?_
        obtain rfl := sj hF
        exact ⟨rfl, ⟨ok, E.keep [0, 2, 3], l685, r686, l687, r688, r689, r690⟩⟩
      clear hJ
      intro e a w hO
      obtain ⟨rfl, ok, E, l691, r692, l693, r694, r695, r696⟩ := hO
      refine t_norm ?_
      obtain ⟨o697, hJ, hF⟩ := bnd hF
      refine c_mono (Q' := fun e a w => e = .normal ∧ ∃ m698 c707 M708, m642.le m698 ∧ Ok u m698 ([(pb0, Obj.cells [(Value.string (bs o697.1.s)), (Value.int .i64 o697.1.to_), (Value.string (bs o697.1.w.text)), (Value.int .i64 o697.1.w.at_), (Value.int .i64 o697.1.at_), (Value.int .i64 o697.1.e)].toArray 165 (0, 0))] :: M708 :: [(b14, Obj.cells [(Value.int .i64 o697.2.Operand), (Value.int .i64 o697.2.Mod), (Value.bool o697.2.Not), c707].toArray 69 (0, 0))] :: [(b13, Obj.cells [(Value.int .i64 0), (Value.int .i64 0), (Value.bool false), (Value.slice none 0 0)].toArray 69 (0, 0))] :: S) w ∧ Env 103 a [(0, (Value.pointer (some ⟨pb0, 0, none⟩))), (2, (Value.pointer (some ⟨b13, 0, none⟩))), (3, (Value.pointer (some ⟨b14, 0, none⟩)))] ∧ o697.1.s.length ≤ LIMS ∧ InR .i64 o697.1.to_ ∧ o697.1.w.text.length ≤ LIMS ∧ InR .i64 o697.1.w.at_ ∧ InR .i64 o697.1.at_ ∧ InR .i64 o697.1.e ∧ InR .i64 o697.2.Operand ∧ InR .i64 o697.2.Mod ∧ ORow 126 2 pSpan m698 c707 o697.2.Spans M708) ?_ ?_
      rotate_left
      · clear hJ
        intro e a w hO
        obtain ⟨rfl, m748, c757, M758, hle, ok, E, l749, r750, l751, r752, r753, r754, r755, r756, h759⟩ := hO
        have le_m0 := le_m0.trans hle
        have le_m604 := le_m604.trans hle
        refine b_norm ?_
        obtain rfl := sj hF
        exact step_n ⟨m748, c757, M758, le_m604, (ok.pk 4 [1, 0, 2, 3] rfl (by decide)), E.keep [0, 2, 3], l749, r750, l751, r752, r753, r754, r755, r756, h759⟩
      replace hF := hJ
      clear hJ
      have le_m642 := Mem.le.refl m642
      obtain ⟨r710, e711, hF⟩ := bnd hF
      obtain ⟨l726, e727, hF⟩ := bnd hF
      obtain rfl := sj hF
      refine k_begin [1, 4] (Cls u m642 ([(b14, Obj.cells [(Value.int .i64 x_641.Operand), (Value.int .i64 x_641.Mod), (Value.bool x_641.Not), c651].toArray 69 (0, 0))] :: [(b13, Obj.cells [(Value.int .i64 0), (Value.int .i64 0), (Value.bool false), (Value.slice none 0 0)].toArray 69 (0, 0))] :: [])) (Cls u m642 ([(b13, Obj.cells [(Value.int .i64 0), (Value.int .i64 0), (Value.bool false), (Value.slice none 0 0)].toArray 69 (0, 0))] :: [])) (by kernel_rfl) ?_
      intro w hw
      replace ok := okdrew ok hw
      clear hw
      refine k_next (cl1 ⟨m642, _, le_m642, ok, ⟨memAt 2 rfl, memAt 3 rfl, trivial⟩⟩ ⟨m642, _, le_m642, ok, ⟨memAt 3 rfl, trivial⟩⟩) fun hT => kt 0 E rfl hT (y_fieldAddr fo_69_3 rfl) fun a E => k_takeN 1 E rfl (by kernel_rfl) nP hT (y_load one_67 rfl (Holds.cown 0 rfl rfl)) rfl rfl fun a E => kt 2 E rfl hT (y_move rfl) fun a E => kt 3 E rfl hT (y_fieldAddr fo_69_0 rfl) fun a E => k_takeN 4 E rfl (by kernel_rfl) nP hT (y_load one_3 rfl (Holds.cown 0 rfl rfl)) rfl rfl fun a E => k_all [5] (by kernel_rfl) rfl (one_c ?_)
      · refine wpOp_of_list (o := _) rfl <| l_call E go_144 rfl (calqueref08_parser_span_w N x_641.Operand r649 o675 l691 r692 l693 r694 r695 r696 e711 hG ok) rfl rfl ?_
        rintro _ w ⟨m731, vs732, rfl, hle, ok, h733, l734, r735, l736, r737, r738, r739⟩
        have le_m0 := le_m0.trans hle
        have le_m604 := le_m604.trans hle
        have le_m642 := le_m642.trans hle
        have h653 := ORow.up mSpan hle h653
        obtain ⟨rfl, r740, r741⟩ := h733
        refine ⟨_, rfl, fun a E => ?_⟩
        refine wn <| k_next (cl1 ⟨m731, _, le_m642, ok, ⟨memAt 2 rfl, memAt 3 rfl, trivial⟩⟩ ⟨m731, _, le_m642, ok, ⟨memAt 3 rfl, trivial⟩⟩) fun hT => k_all [6] (by kernel_rfl) rfl (one_c ?_)
        · refine wpOp_of_list (o := _) rfl <| l_slit (R := pSpan) (xo := [.tmp 98]) (xs := ([r710.1] : List (Span))) E ok sl_67 zero_126 rfl ⟨⟨_, rfl, rfl, ⟨rfl, r740, r741⟩⟩, trivial⟩ rfl rfl rfl rfl fun c742 M743 a w E ok h744 => wn <| k_next (cl1 ⟨m731, _, le_m642, ok, ⟨memAt 3 rfl, memAt 4 rfl, trivial⟩⟩ ⟨m731, _, le_m642, ok, ⟨memAt 4 rfl, trivial⟩⟩) fun hT => k_all [7] (by kernel_rfl) rfl (one_c ?_)
          · refine wpOp_of_list (o := _) rfl <| l_app (R := pSpan) E ok 2 mSpan sl_67 Tryz.underlying67 rfl h653 (SrcOK.ofRow h744 0 rfl ok) e727 ⟨_, zero_126, rfl⟩ rfl rfl rfl rfl fun c745 M746 a w E ok h747 => wn <| k_next (cl1 ⟨m731, _, le_m642, ok, ⟨memAt 3 rfl, memAt 4 rfl, trivial⟩⟩ ⟨m731, _, le_m642, ok, ⟨memAt 4 rfl, trivial⟩⟩) fun hT => kt 8 E rfl hT (y_fieldAddr fo_69_3 rfl) fun a E => k_all [9] (by kernel_rfl) rfl (one_c ?_)
            · refine wpOp_of_list (o := _) rfl <| l_storeB E ok 3 rfl rfl rfl inf_67 (ORow.cells h747) rfl ⟨(ORow.one h747), trivial⟩ rfl rfl fun w ok => wn <| k_next (cl2 (by kernel_rfl) ⟨m731, _, le_m642, ok, ⟨memAt 4 rfl, trivial⟩⟩) fun hT => k_done (by kernel_rfl) ?_
              exact ⟨rfl, ⟨m731, c745, M746, le_m642, (ok.pk 5 [1, 2, 3, 4] rfl (by decide)), E.keep [0, 2, 3], l734, r735, l736, r737, r738, r739, r649, r650, h747⟩⟩
  replace hF := cond_t hc147 hF
  replace E := E.upd 49 hc147 rfl
  refine lv E ok (y_fieldAddr fo_69_2 rfl) fun a E => lv E ok (y_load one_4 rfl (Holds.own 1 rfl rfl)) fun a E => lv E ok (y_not rfl) fun a E => lv E ok (y_pickT rfl rfl) fun a E => wn ?_
  obtain ⟨o148, hJ, hF⟩ := bnd hF
  refine c_mono (Q' := fun e a w => e = .normal ∧ Ok u m134 ([(pb0, Obj.cells [(Value.string (bs o148.s)), (Value.int .i64 o148.to_), (Value.string (bs o148.w.text)), (Value.int .i64 o148.w.at_), (Value.int .i64 o148.at_), (Value.int .i64 o148.e)].toArray 165 (0, 0))] :: [(b14, Obj.cells [(Value.int .i64 o68.2.Operand), (Value.int .i64 o68.2.Mod), (Value.bool r143), (Value.slice none 0 0)].toArray 69 (0, 0))] :: [(b13, Obj.cells [(Value.int .i64 0), (Value.int .i64 0), (Value.bool false), (Value.slice none 0 0)].toArray 69 (0, 0))] :: S) w ∧ Env 103 a [(0, (Value.pointer (some ⟨pb0, 0, none⟩))), (2, (Value.pointer (some ⟨b13, 0, none⟩))), (3, (Value.pointer (some ⟨b14, 0, none⟩)))] ∧ o148.s.length ≤ LIMS ∧ InR .i64 o148.to_ ∧ o148.w.text.length ≤ LIMS ∧ InR .i64 o148.w.at_ ∧ InR .i64 o148.at_ ∧ InR .i64 o148.e) ?_ ?_
  · replace hF := hJ
    clear hJ
    refine c_if E rfl (fun hc155 => ?_) (fun hc155 => ?_)
    rotate_left
    · replace hF := cond_f hc155 hF
      refine wp_skip ?_
      obtain rfl := sj hF
      exact ⟨rfl, ⟨ok, E.keep [0, 2, 3], l135, r136, l137, r138, r139, r140⟩⟩
    replace hF := cond_t hc155 hF
    refine c_region <| lv E ok (y_move rfl) fun a E => ?_
    obtain ⟨r156, e157, hF⟩ := bnd hF
    refine l_call E go_113 rfl (calqueref08_parser_fail_w N 3 (show InR .i64 (3) by decide) o68.1 l135 r136 l137 r138 r139 r140 e157 hG ok) rfl rfl ?_
    rintro _ w ⟨⟨rfl, ok⟩, l158, r159, l160, r161, r162, r163⟩
    refine ⟨_, rfl, fun a E => ?_⟩
    refine wpList_nil ?_
    obtain rfl := sj hF
    exact ⟨rfl, ⟨ok, E.keep [0, 2, 3], l158, r159, l160, r161, r162, r163⟩⟩
  clear hJ
  intro e a w hO
  obtain ⟨rfl, ok, E, l164, r165, l166, r167, r168, r169⟩ := hO
  refine t_norm <| sg <| lv E ok (y_move rfl) fun a E => ?_
  obtain ⟨r170, e171, hF⟩ := bnd hF
  refine l_call E go_111 rfl (calqueref08_parser_step_w N o148 l164 r165 l166 r167 r168 r169 e171 hG ok) rfl rfl ?_
  rintro _ w ⟨⟨rfl, ok⟩, l172, r173, l174, r175, r176, r177⟩
  refine ⟨_, rfl, fun a E => ?_⟩
  refine wn <| wp_seq ?_
  obtain ⟨o178, hJ, hF⟩ := bnd hF
  refine c_mono (Q' := fun e a w => e = .normal ∧ ∃ m179 c188 M189, m134.le m179 ∧ Ok u m179 (M189 :: [(pb0, Obj.cells [(Value.string (bs o178.1.s)), (Value.int .i64 o178.1.to_), (Value.string (bs o178.1.w.text)), (Value.int .i64 o178.1.w.at_), (Value.int .i64 o178.1.at_), (Value.int .i64 o178.1.e)].toArray 165 (0, 0))] :: [(b14, Obj.cells [(Value.int .i64 o178.2.Operand), (Value.int .i64 o178.2.Mod), (Value.bool o178.2.Not), c188].toArray 69 (0, 0))] :: [(b13, Obj.cells [(Value.int .i64 0), (Value.int .i64 0), (Value.bool false), (Value.slice none 0 0)].toArray 69 (0, 0))] :: S) w ∧ Env 103 a [(0, (Value.pointer (some ⟨pb0, 0, none⟩))), (2, (Value.pointer (some ⟨b13, 0, none⟩))), (3, (Value.pointer (some ⟨b14, 0, none⟩)))] ∧ o178.1.s.length ≤ LIMS ∧ InR .i64 o178.1.to_ ∧ o178.1.w.text.length ≤ LIMS ∧ InR .i64 o178.1.w.at_ ∧ InR .i64 o178.1.at_ ∧ InR .i64 o178.1.e ∧ InR .i64 o178.2.Operand ∧ InR .i64 o178.2.Mod ∧ ORow 126 2 pSpan m179 c188 o178.2.Spans M189) ?_ ?_
  · replace hF := hJ
    clear hJ
    have le_m134 := Mem.le.refl m134
    obtain ⟨r191, e192, hF⟩ := bnd hF
    obtain ⟨l209, e210, hF⟩ := bnd hF
    obtain rfl := sj hF
    refine k_begin [1, 4] (Cls u m134 ([(b14, Obj.cells [(Value.int .i64 o68.2.Operand), (Value.int .i64 o68.2.Mod), (Value.bool r143), (Value.slice none 0 0)].toArray 69 (0, 0))] :: [(b13, Obj.cells [(Value.int .i64 0), (Value.int .i64 0), (Value.bool false), (Value.slice none 0 0)].toArray 69 (0, 0))] :: [])) (Cls u m134 ([(b13, Obj.cells [(Value.int .i64 0), (Value.int .i64 0), (Value.bool false), (Value.slice none 0 0)].toArray 69 (0, 0))] :: [])) (by kernel_rfl) ?_
    intro w hw
    replace ok := okdrew ok hw
    clear hw
    refine k_next (cl1 ⟨m134, _, le_m134, ok, ⟨memAt 1 rfl, memAt 2 rfl, trivial⟩⟩ ⟨m134, _, le_m134, ok, ⟨memAt 2 rfl, trivial⟩⟩) fun hT => kt 0 E rfl hT (y_fieldAddr fo_69_3 rfl) fun a E => k_takeN 1 E rfl (by kernel_rfl) nP hT (y_load one_67 rfl (Holds.cown 0 rfl rfl)) rfl rfl fun a E => kt 2 E rfl hT (y_move rfl) fun a E => kt 3 E rfl hT (y_fieldAddr fo_69_0 rfl) fun a E => k_takeN 4 E rfl (by kernel_rfl) nP hT (y_load one_3 rfl (Holds.cown 0 rfl rfl)) rfl rfl fun a E => k_all [5] (by kernel_rfl) rfl (one_c ?_)
    · refine wpOp_of_list (o := _) rfl <| l_call E go_144 rfl (calqueref08_parser_span_w N o68.2.Operand r141 r170 l172 r173 l174 r175 r176 r177 e192 hG ok) rfl rfl ?_
      rintro _ w ⟨m214, vs215, rfl, hle, ok, h216, l217, r218, l219, r220, r221, r222⟩
      have le_m0 := le_m0.trans hle
      have le_m134 := le_m134.trans hle
      obtain ⟨rfl, r223, r224⟩ := h216
      refine ⟨_, rfl, fun a E => ?_⟩
      refine wn <| k_next (cl1 ⟨m214, _, le_m134, ok, ⟨memAt 1 rfl, memAt 2 rfl, trivial⟩⟩ ⟨m214, _, le_m134, ok, ⟨memAt 2 rfl, trivial⟩⟩) fun hT => k_all [6] (by kernel_rfl) rfl (one_c ?_)
      · refine wpOp_of_list (o := _) rfl <| l_slit (R := pSpan) (xo := [.tmp 63]) (xs := ([r191.1] : List (Span))) E ok sl_67 zero_126 rfl ⟨⟨_, rfl, rfl, ⟨rfl, r223, r224⟩⟩, trivial⟩ rfl rfl rfl rfl fun c225 M226 a w E ok h227 => wn <| k_next (cl1 ⟨m214, _, le_m134, ok, ⟨memAt 2 rfl, memAt 3 rfl, trivial⟩⟩ ⟨m214, _, le_m134, ok, ⟨memAt 3 rfl, trivial⟩⟩) fun hT => k_all [7] (by kernel_rfl) rfl (one_c ?_)
        · refine wpOp_of_list (o := _) rfl ?_
          obtain ⟨M228, ok, h229⟩ := nilrow (e := 126) (k := 2) (R := pSpan) ok
          refine l_app (R := pSpan) E ok 0 mSpan sl_67 Tryz.underlying67 rfl h229 (SrcOK.ofRow h227 1 rfl ok) e210 ⟨_, zero_126, rfl⟩ rfl rfl rfl rfl fun c230 M231 a w E ok h232 => wn <| k_next (cl1 ⟨m214, _, le_m134, ok, ⟨memAt 3 rfl, memAt 4 rfl, trivial⟩⟩ ⟨m214, _, le_m134, ok, ⟨memAt 4 rfl, trivial⟩⟩) fun hT => kt 8 E rfl hT (y_fieldAddr fo_69_3 rfl) fun a E => k_all [9] (by kernel_rfl) rfl (one_c ?_)
          · refine wpOp_of_list (o := _) rfl <| l_storeB E ok 3 rfl rfl rfl inf_67 (ORow.cells h232) rfl ⟨(ORow.one h232), trivial⟩ rfl rfl fun w ok => wn <| k_next (cl2 (by kernel_rfl) ⟨m214, _, le_m134, ok, ⟨memAt 4 rfl, trivial⟩⟩) fun hT => k_done (by kernel_rfl) ?_
            exact ⟨rfl, ⟨m214, c230, M231, le_m134, (ok.pk 5 [0, 2, 3, 4] rfl (by decide)), E.keep [0, 2, 3], l217, r218, l219, r220, r221, r222, r141, r142, h232⟩⟩
  clear hJ
  intro e a w hO
  obtain ⟨rfl, m233, c242, M243, hle, ok, E, l234, r235, l236, r237, r238, r239, r240, r241, h244⟩ := hO
  have le_m0 := le_m0.trans hle
  refine t_norm <| wp_seq <| wp_block ?_
  obtain ⟨o256, hL, hF⟩ := bnd hF
  refine c_loop _ (fun (s : Parser × Relation) a w => ∃ m257 c266 M267, m233.le m257 ∧ Ok u m257 (M267 :: [(pb0, Obj.cells [(Value.string (bs s.1.s)), (Value.int .i64 s.1.to_), (Value.string (bs s.1.w.text)), (Value.int .i64 s.1.w.at_), (Value.int .i64 s.1.at_), (Value.int .i64 s.1.e)].toArray 165 (0, 0))] :: [(b14, Obj.cells [(Value.int .i64 s.2.Operand), (Value.int .i64 s.2.Mod), (Value.bool s.2.Not), c266].toArray 69 (0, 0))] :: [(b13, Obj.cells [(Value.int .i64 0), (Value.int .i64 0), (Value.bool false), (Value.slice none 0 0)].toArray 69 (0, 0))] :: S) w ∧ Env 103 a [(0, (Value.pointer (some ⟨pb0, 0, none⟩))), (2, (Value.pointer (some ⟨b13, 0, none⟩))), (3, (Value.pointer (some ⟨b14, 0, none⟩)))] ∧ s.1.s.length ≤ LIMS ∧ InR .i64 s.1.to_ ∧ s.1.w.text.length ≤ LIMS ∧ InR .i64 s.1.w.at_ ∧ InR .i64 s.1.at_ ∧ InR .i64 s.1.e ∧ InR .i64 s.2.Operand ∧ InR .i64 s.2.Mod ∧ ORow 126 2 pSpan m257 c266 s.2.Spans M267) (fun (b : (Relation × Parser)) e a w => e = (.exit 2) ∧ ∃ m529 c532 M533, m233.le m529 ∧ Ok u m529 (M533 :: [(pb0, Obj.cells [(Value.string (bs b.2.s)), (Value.int .i64 b.2.to_), (Value.string (bs b.2.w.text)), (Value.int .i64 b.2.w.at_), (Value.int .i64 b.2.at_), (Value.int .i64 b.2.e)].toArray 165 (0, 0))] :: [(b14, Obj.cells [(Value.int .i64 b.1.Operand), (Value.int .i64 b.1.Mod), (Value.bool b.1.Not), c532].toArray 69 (0, 0))] :: [(b13, Obj.cells [(Value.int .i64 0), (Value.int .i64 0), (Value.bool false), (Value.slice none 0 0)].toArray 69 (0, 0))] :: S) w ∧ Env 103 a [(2, (Value.pointer (some ⟨b13, 0, none⟩))), (3, (Value.pointer (some ⟨b14, 0, none⟩)))] ∧ InR .i64 b.1.Operand ∧ InR .i64 b.1.Mod ∧ ORow 126 2 pSpan m529 c532 b.1.Spans M533 ∧ b.2.s.length ≤ LIMS ∧ InR .i64 b.2.to_ ∧ b.2.w.text.length ≤ LIMS ∧ InR .i64 b.2.w.at_ ∧ InR .i64 b.2.at_ ∧ InR .i64 b.2.e) ?_ ?_ N _ a w hL ⟨m233, c242, M243, Mem.le.refl _, ok, E.keep [0, 2, 3], l234, r235, l236, r237, r238, r239, r240, r241, h244⟩
  rotate_left
  · intro e a w _ hO
    obtain ⟨rfl, m515, c518, M519, hle, ok, E, r516, r517, h520, l521, r522, l523, r524, r525, r526⟩ := hO
    have le_m0 := le_m0.trans hle
    refine b_hit <| t_norm <| sg <| lv E ok (y_loadAgg (cs := [(Value.int .i64 o256.1.Operand), (Value.int .i64 o256.1.Mod), (Value.bool o256.1.Not), c518]) agg_69 rfl rfl (Holds.own 2 rfl rfl)) fun a E => l_storeB E ok 3 rfl rfl rfl inf_69 rfl rfl ⟨rfl, rfl, rfl, (ORow.one h520), trivial⟩ rfl rfl fun w ok => wn ?_
    refine wp_ret ?_
    obtain ⟨m527, hle, ok, hfz⟩ := (ok.frs 0 rfl).freeze
    have h528 := ORow.froz mSpan h520 hle hfz (by decide)
    have le_m0 := le_m0.trans hle
    have hret : calqueref08_parser_relation_R u m0 S pb0 x0 (o256.1, o256.2) a w := ⟨m527, [(Value.int .i64 o256.1.Operand), (Value.int .i64 o256.1.Mod), (Value.bool o256.1.Not), c518], le_m0, (ok.pk 3 [0] rfl (by decide)), E.d, ⟨rv_c (cs := [(Value.int .i64 o256.1.Operand), (Value.int .i64 o256.1.Mod), (Value.bool o256.1.Not), c518]) E ok rfl agg_69 rfl (Holds.own 2 rfl rfl), trivial⟩, ⟨_, rfl, r516, r517, h528⟩, l521, r522, l523, r524, r525, r526⟩
    obtain rfl := sj hF
    exact fin _ _ hret
  rintro ⟨x_269, x_270⟩ a w r ⟨m271, c280, M281, hle, ok, E, l272, r273, l274, r275, r276, r277, r278, r279, h282⟩ hF
  replace hF : calqueref08_parser_relation_b2 N x_269 x_270 = some r := hF
  unfold calqueref08_parser_relation_b2 at hF
  have le_m233 := Mem.le.refl m233
  have le_m0 := le_m0.trans hle
  have le_m233 := le_m233.trans hle
  refine wp_seq <| sg <| lv E ok (y_move rfl) fun a E => ?_
  obtain ⟨r283, e284, hF⟩ := bnd hF
  replace ok : Ok u m271 ([(pb0, Obj.cells [(Value.string (bs x_269.s)), (Value.int .i64 x_269.to_), (Value.string (bs x_269.w.text)), (Value.int .i64 x_269.w.at_), (Value.int .i64 x_269.at_), (Value.int .i64 x_269.e)].toArray 165 (0, 0))] :: M281 :: [(b14, Obj.cells [(Value.int .i64 x_270.Operand), (Value.int .i64 x_270.Mod), (Value.bool x_270.Not), c280].toArray 69 (0, 0))] :: [(b13, Obj.cells [(Value.int .i64 0), (Value.int .i64 0), (Value.bool false), (Value.slice none 0 0)].toArray 69 (0, 0))] :: S) w := (ok.pk 4 [1, 0, 2, 3] rfl (by decide))
  refine l_call E go_115 rfl (calqueref08_parser_is_w N ([44]) (show ([44] : List UInt8).length ≤ LIMS by decide) x_269 l272 r273 l274 r275 r276 r277 e284 hG ok) rfl rfl ?_
  rintro _ w ⟨rfl, ok⟩
  refine ⟨_, rfl, fun a E => ?_⟩
  refine wn <| c_if E rfl (fun hc285 => ?_) (fun hc285 => ?_)
  rotate_left
  · replace hF := cond_f hc285 hF
    refine wp_exit <| t_exit ?_
    obtain rfl := sj hF
    exact step_o (by nofun) (⟨rfl, ⟨m271, c280, M281, le_m233, (ok.pk 4 [1, 0, 2, 3] rfl (by decide)), E.keep [2, 3], r278, r279, h282, l272, r273, l274, r275, r276, r277⟩⟩)
  replace hF := cond_t hc285 hF
  refine wp_skip <| t_norm <| wp_block <| sg <| lv E ok (y_move rfl) fun a E => ?_
  obtain ⟨r286, e287, hF⟩ := bnd hF
  refine l_call E go_111 rfl (calqueref08_parser_step_w N x_269 l272 r273 l274 r275 r276 r277 e287 hG ok) rfl rfl ?_
  rintro _ w ⟨⟨rfl, ok⟩, l288, r289, l290, r291, r292, r293⟩
  refine ⟨_, rfl, fun a E => ?_⟩
  refine wn <| wp_seq <| wp_seq <| c_draw (by kernel_rfl) (by kernel_rfl) ok <| qv E (y_fieldAddr fo_69_3 rfl) fun a E => qv E (y_load one_67 rfl (Holds.own 2 rfl rfl)) fun a E => qv E (y_lenR sl_67 h282 rfl) fun a E => ?_
  refine qv E (y_eql rfl rfl) fun a E => qv E (y_move rfl) fun a E => bsplit ((x_270.Spans.length : Int) == 4) (fun hc294 => ?_) (fun hc294 => ?_)
  rotate_left
  · as_aux_lemma =>
      replace hF := cond_f hc294 hF
      replace E := E.upd 75 hc294 rfl
      refine qs E fun a E => qs E fun a E => qv E (y_pickF rfl rfl) fun a E => qv E (y_move rfl) fun a E => qs E fun a E => qs E fun a E => qs E fun a E => qs E fun a E => ?_
      refine qs E fun a E => qs E fun a E => qs E fun a E => qs E fun a E => qs E fun a E => qs E fun a E => qv E (y_pickF rfl rfl) fun a E => wpQuiet_nil ?_
      intro w ok
      refine t_norm <| c_if E rfl (fun h => by cases h) (fun _ => ?_)
      refine wp_skip <| t_norm ?_
      obtain ⟨o452, hJ, hF⟩ := bnd hF
      refine c_mono (Q' := fun e a w => e = .normal ∧ ∃ m453 c462 M463, m271.le m453 ∧ Ok u m453 ([(pb0, Obj.cells [(Value.string (bs o452.1.s)), (Value.int .i64 o452.1.to_), (Value.string (bs o452.1.w.text)), (Value.int .i64 o452.1.w.at_), (Value.int .i64 o452.1.at_), (Value.int .i64 o452.1.e)].toArray 165 (0, 0))] :: M463 :: [(b14, Obj.cells [(Value.int .i64 o452.2.Operand), (Value.int .i64 o452.2.Mod), (Value.bool o452.2.Not), c462].toArray 69 (0, 0))] :: [(b13, Obj.cells [(Value.int .i64 0), (Value.int .i64 0), (Value.bool false), (Value.slice none 0 0)].toArray 69 (0, 0))] :: S) w ∧ Env 103 a [(0, (Value.pointer (some ⟨pb0, 0, none⟩))), (2, (Value.pointer (some ⟨b13, 0, none⟩))), (3, (Value.pointer (some ⟨b14, 0, none⟩)))] ∧ o452.1.s.length ≤ LIMS ∧ InR .i64 o452.1.to_ ∧ o452.1.w.text.length ≤ LIMS ∧ InR .i64 o452.1.w.at_ ∧ InR .i64 o452.1.at_ ∧ InR .i64 o452.1.e ∧ InR .i64 o452.2.Operand ∧ InR .i64 o452.2.Mod ∧ ORow 126 2 pSpan m453 c462 o452.2.Spans M463) ?_ ?_
      rotate_left
      · clear hJ
        intro e a w hO
        obtain ⟨rfl, m503, c512, M513, hle, ok, E, l504, r505, l506, r507, r508, r509, r510, r511, h514⟩ := hO
        have le_m0 := le_m0.trans hle
        have le_m233 := le_m233.trans hle
        refine b_norm ?_
        obtain rfl := sj hF
        exact step_n ⟨m503, c512, M513, le_m233, (ok.pk 4 [1, 0, 2, 3] rfl (by decide)), E.keep [0, 2, 3], l504, r505, l506, r507, r508, r509, r510, r511, h514⟩
      replace hF := hJ
      clear hJ
      have le_m271 := Mem.le.refl m271
      obtain ⟨r465, e466, hF⟩ := bnd hF
      obtain ⟨l481, e482, hF⟩ := bnd hF
      obtain rfl := sj hF
      refine k_begin [1, 4] (Cls u m271 ([(b14, Obj.cells [(Value.int .i64 x_270.Operand), (Value.int .i64 x_270.Mod), (Value.bool x_270.Not), c280].toArray 69 (0, 0))] :: [(b13, Obj.cells [(Value.int .i64 0), (Value.int .i64 0), (Value.bool false), (Value.slice none 0 0)].toArray 69 (0, 0))] :: [])) (Cls u m271 ([(b13, Obj.cells [(Value.int .i64 0), (Value.int .i64 0), (Value.bool false), (Value.slice none 0 0)].toArray 69 (0, 0))] :: [])) (by kernel_rfl) ?_
      intro w hw
      replace ok := okdrew ok hw
      clear hw
      refine k_next (cl1 ⟨m271, _, le_m271, ok, ⟨memAt 2 rfl, memAt 3 rfl, trivial⟩⟩ ⟨m271, _, le_m271, ok, ⟨memAt 3 rfl, trivial⟩⟩) fun hT => kt 0 E rfl hT (y_fieldAddr fo_69_3 rfl) fun a E => k_takeN 1 E rfl (by kernel_rfl) nP hT (y_load one_67 rfl (Holds.cown 0 rfl rfl)) rfl rfl fun a E => kt 2 E rfl hT (y_move rfl) fun a E => kt 3 E rfl hT (y_fieldAddr fo_69_0 rfl) fun a E => k_takeN 4 E rfl (by kernel_rfl) nP hT (y_load one_3 rfl (Holds.cown 0 rfl rfl)) rfl rfl fun a E => k_all [5] (by kernel_rfl) rfl (one_c ?_)
      · refine wpOp_of_list (o := _) rfl <| l_call E go_144 rfl (calqueref08_parser_span_w N x_270.Operand r278 r286 l288 r289 l290 r291 r292 r293 e466 hG ok) rfl rfl ?_
        rintro _ w ⟨m486, vs487, rfl, hle, ok, h488, l489, r490, l491, r492, r493, r494⟩
        have le_m0 := le_m0.trans hle
        have le_m233 := le_m233.trans hle
        have le_m271 := le_m271.trans hle
        have h282 := ORow.up mSpan hle h282
        obtain ⟨rfl, r495, r496⟩ := h488
        refine ⟨_, rfl, fun a E => ?_⟩
        refine wn <| k_next (cl1 ⟨m486, _, le_m271, ok, ⟨memAt 2 rfl, memAt 3 rfl, trivial⟩⟩ ⟨m486, _, le_m271, ok, ⟨memAt 3 rfl, trivial⟩⟩) fun hT => k_all [6] (by kernel_rfl) rfl (one_c ?_)
        · refine wpOp_of_list (o := _) rfl <| l_slit (R := pSpan) (xo := [.tmp 98]) (xs := ([r465.1] : List (Span))) E ok sl_67 zero_126 rfl ⟨⟨_, rfl, rfl, ⟨rfl, r495, r496⟩⟩, trivial⟩ rfl rfl rfl rfl fun c497 M498 a w E ok h499 => wn <| k_next (cl1 ⟨m486, _, le_m271, ok, ⟨memAt 3 rfl, memAt 4 rfl, trivial⟩⟩ ⟨m486, _, le_m271, ok, ⟨memAt 4 rfl, trivial⟩⟩) fun hT => k_all [7] (by kernel_rfl) rfl (one_c ?_)
          · refine wpOp_of_list (o := _) rfl <| l_app (R := pSpan) E ok 2 mSpan sl_67 Tryz.underlying67 rfl h282 (SrcOK.ofRow h499 0 rfl ok) e482 ⟨_, zero_126, rfl⟩ rfl rfl rfl rfl fun c500 M501 a w E ok h502 => wn <| k_next (cl1 ⟨m486, _, le_m271, ok, ⟨memAt 3 rfl, memAt 4 rfl, trivial⟩⟩ ⟨m486, _, le_m271, ok, ⟨memAt 4 rfl, trivial⟩⟩) fun hT => kt 8 E rfl hT (y_fieldAddr fo_69_3 rfl) fun a E => k_all [9] (by kernel_rfl) rfl (one_c ?_)
            · refine wpOp_of_list (o := _) rfl <| l_storeB E ok 3 rfl rfl rfl inf_67 (ORow.cells h502) rfl ⟨(ORow.one h502), trivial⟩ rfl rfl fun w ok => wn <| k_next (cl2 (by kernel_rfl) ⟨m486, _, le_m271, ok, ⟨memAt 4 rfl, trivial⟩⟩) fun hT => k_done (by kernel_rfl) ?_
              exact ⟨rfl, ⟨m486, c500, M501, le_m271, (ok.pk 5 [1, 2, 3, 4] rfl (by decide)), E.keep [0, 2, 3], l489, r490, l491, r492, r493, r494, r278, r279, h502⟩⟩
  replace hF := cond_t hc294 hF
  replace E := E.upd 75 hc294 rfl
  refine qv E (y_move rfl) fun a E => ?_
  obtain ⟨r295, e296, hF⟩ := bnd hF
  refine q_call E (v := (Value.bool r295)) go_145 rfl (fun w ok => ?_) rfl rfl fun a E => ?_
  · refine Calls.mono (calqueref08_parser_digit_w N r286 l288 r289 l290 r291 r292 r293 e296 hG ok) fun _ _ hz => ?_
    obtain ⟨hz1, okz⟩ := hz
    exact ⟨hz1, okz⟩
  refine qv E (y_pickT rfl rfl) fun a E => qv E (y_move rfl) fun a E => bsplit r295 (fun hc297 => ?_) (fun hc297 => ?_)
  rotate_left
  · replace hF := cond_f hc297 hF
    replace E := E.upd 79 hc297 rfl
    refine qs E fun a E => qs E fun a E => qs E fun a E => qs E fun a E => qs E fun a E => qs E fun a E => qs E fun a E => qs E fun a E => ?_
    refine qs E fun a E => qs E fun a E => qv E (y_pickF rfl rfl) fun a E => wpQuiet_nil ?_
    intro w ok
    refine t_norm <| c_if E rfl (fun h => by cases h) (fun _ => ?_)
    refine wp_skip <| t_norm ?_
    obtain ⟨o389, hJ, hF⟩ := bnd hF
    refine c_mono (Q' := fun e a w => e = .normal ∧ ∃ m390 c399 M400, m271.le m390 ∧ Ok u m390 ([(pb0, Obj.cells [(Value.string (bs o389.1.s)), (Value.int .i64 o389.1.to_), (Value.string (bs o389.1.w.text)), (Value.int .i64 o389.1.w.at_), (Value.int .i64 o389.1.at_), (Value.int .i64 o389.1.e)].toArray 165 (0, 0))] :: M400 :: [(b14, Obj.cells [(Value.int .i64 o389.2.Operand), (Value.int .i64 o389.2.Mod), (Value.bool o389.2.Not), c399].toArray 69 (0, 0))] :: [(b13, Obj.cells [(Value.int .i64 0), (Value.int .i64 0), (Value.bool false), (Value.slice none 0 0)].toArray 69 (0, 0))] :: S) w ∧ Env 103 a [(0, (Value.pointer (some ⟨pb0, 0, none⟩))), (2, (Value.pointer (some ⟨b13, 0, none⟩))), (3, (Value.pointer (some ⟨b14, 0, none⟩)))] ∧ o389.1.s.length ≤ LIMS ∧ InR .i64 o389.1.to_ ∧ o389.1.w.text.length ≤ LIMS ∧ InR .i64 o389.1.w.at_ ∧ InR .i64 o389.1.at_ ∧ InR .i64 o389.1.e ∧ InR .i64 o389.2.Operand ∧ InR .i64 o389.2.Mod ∧ ORow 126 2 pSpan m390 c399 o389.2.Spans M400) ?_ ?_
    rotate_left
    · clear hJ
      intro e a w hO
      obtain ⟨rfl, m440, c449, M450, hle, ok, E, l441, r442, l443, r444, r445, r446, r447, r448, h451⟩ := hO
      have le_m0 := le_m0.trans hle
      have le_m233 := le_m233.trans hle
      refine b_norm ?_
      obtain rfl := sj hF
      exact step_n ⟨m440, c449, M450, le_m233, (ok.pk 4 [1, 0, 2, 3] rfl (by decide)), E.keep [0, 2, 3], l441, r442, l443, r444, r445, r446, r447, r448, h451⟩
    replace hF := hJ
    clear hJ
    have le_m271 := Mem.le.refl m271
    obtain ⟨r402, e403, hF⟩ := bnd hF
    obtain ⟨l418, e419, hF⟩ := bnd hF
    obtain rfl := sj hF
    refine k_begin [1, 4] (Cls u m271 ([(b14, Obj.cells [(Value.int .i64 x_270.Operand), (Value.int .i64 x_270.Mod), (Value.bool x_270.Not), c280].toArray 69 (0, 0))] :: [(b13, Obj.cells [(Value.int .i64 0), (Value.int .i64 0), (Value.bool false), (Value.slice none 0 0)].toArray 69 (0, 0))] :: [])) (Cls u m271 ([(b13, Obj.cells [(Value.int .i64 0), (Value.int .i64 0), (Value.bool false), (Value.slice none 0 0)].toArray 69 (0, 0))] :: [])) (by kernel_rfl) ?_
    intro w hw
    replace ok := okdrew ok hw
    clear hw
    refine k_next (cl1 ⟨m271, _, le_m271, ok, ⟨memAt 2 rfl, memAt 3 rfl, trivial⟩⟩ ⟨m271, _, le_m271, ok, ⟨memAt 3 rfl, trivial⟩⟩) fun hT => kt 0 E rfl hT (y_fieldAddr fo_69_3 rfl) fun a E => k_takeN 1 E rfl (by kernel_rfl) nP hT (y_load one_67 rfl (Holds.cown 0 rfl rfl)) rfl rfl fun a E => kt 2 E rfl hT (y_move rfl) fun a E => kt 3 E rfl hT (y_fieldAddr fo_69_0 rfl) fun a E => k_takeN 4 E rfl (by kernel_rfl) nP hT (y_load one_3 rfl (Holds.cown 0 rfl rfl)) rfl rfl fun a E => k_all [5] (by kernel_rfl) rfl (one_c ?_)
    · refine wpOp_of_list (o := _) rfl <| l_call E go_144 rfl (calqueref08_parser_span_w N x_270.Operand r278 r286 l288 r289 l290 r291 r292 r293 e403 hG ok) rfl rfl ?_
      rintro _ w ⟨m423, vs424, rfl, hle, ok, h425, l426, r427, l428, r429, r430, r431⟩
      have le_m0 := le_m0.trans hle
      have le_m233 := le_m233.trans hle
      have le_m271 := le_m271.trans hle
      have h282 := ORow.up mSpan hle h282
      obtain ⟨rfl, r432, r433⟩ := h425
      refine ⟨_, rfl, fun a E => ?_⟩
      refine wn <| k_next (cl1 ⟨m423, _, le_m271, ok, ⟨memAt 2 rfl, memAt 3 rfl, trivial⟩⟩ ⟨m423, _, le_m271, ok, ⟨memAt 3 rfl, trivial⟩⟩) fun hT => k_all [6] (by kernel_rfl) rfl (one_c ?_)
      · refine wpOp_of_list (o := _) rfl <| l_slit (R := pSpan) (xo := [.tmp 98]) (xs := ([r402.1] : List (Span))) E ok sl_67 zero_126 rfl ⟨⟨_, rfl, rfl, ⟨rfl, r432, r433⟩⟩, trivial⟩ rfl rfl rfl rfl fun c434 M435 a w E ok h436 => wn <| k_next (cl1 ⟨m423, _, le_m271, ok, ⟨memAt 3 rfl, memAt 4 rfl, trivial⟩⟩ ⟨m423, _, le_m271, ok, ⟨memAt 4 rfl, trivial⟩⟩) fun hT => k_all [7] (by kernel_rfl) rfl (one_c ?_)
        · refine wpOp_of_list (o := _) rfl <| l_app (R := pSpan) E ok 2 mSpan sl_67 Tryz.underlying67 rfl h282 (SrcOK.ofRow h436 0 rfl ok) e419 ⟨_, zero_126, rfl⟩ rfl rfl rfl rfl fun c437 M438 a w E ok h439 => wn <| k_next (cl1 ⟨m423, _, le_m271, ok, ⟨memAt 3 rfl, memAt 4 rfl, trivial⟩⟩ ⟨m423, _, le_m271, ok, ⟨memAt 4 rfl, trivial⟩⟩) fun hT => kt 8 E rfl hT (y_fieldAddr fo_69_3 rfl) fun a E => k_all [9] (by kernel_rfl) rfl (one_c ?_)
          · refine wpOp_of_list (o := _) rfl <| l_storeB E ok 3 rfl rfl rfl inf_67 (ORow.cells h439) rfl ⟨(ORow.one h439), trivial⟩ rfl rfl fun w ok => wn <| k_next (cl2 (by kernel_rfl) ⟨m423, _, le_m271, ok, ⟨memAt 4 rfl, trivial⟩⟩) fun hT => k_done (by kernel_rfl) ?_
            exact ⟨rfl, ⟨m423, c437, M438, le_m271, (ok.pk 5 [1, 2, 3, 4] rfl (by decide)), E.keep [0, 2, 3], l426, r427, l428, r429, r430, r431, r278, r279, h439⟩⟩
  replace hF := cond_t hc297 hF
  replace E := E.upd 79 hc297 rfl
  refine qv E (y_move rfl) fun a E => qv E (y_nilCheck rfl) fun a E => qv E (y_fieldAddr fo_165_2 rfl) fun a E => qv E (y_fieldAddr fo_163_0 rfl) fun a E => qv E (y_load one_9 rfl (Holds.own 0 rfl rfl)) fun a E => ?_
  obtain ⟨r298, e299, hF⟩ := bnd hF
  obtain ⟨_, _, ⟨_, _⟩, r300⟩ := Go.X.Calls.get (calqueref07_Value_w N r286.w.text l290 e299 hG ok)
  refine q_call E go_146 rfl (fun w ok => (calqueref07_Value_w N r286.w.text l290 e299 hG ok).mono (fun _ _ h => h.1)) rfl rfl fun a E => qv E (y_fieldAddr fo_69_0 rfl) fun a E => qv E (y_load one_3 rfl (Holds.own 2 rfl rfl)) fun a E => ?_
  obtain ⟨r301, e302, hF⟩ := bnd hF
  obtain ⟨_, _, ⟨_, _⟩, r303⟩ := Go.X.Calls.get (calqueref08_Bound_w N x_270.Operand r278 e302 hG ok)
  refine q_call E go_103 rfl (fun w ok => (calqueref08_Bound_w N x_270.Operand r278 e302 hG ok).mono (fun _ _ h => h.1)) rfl rfl fun a E => qv E (y_leq rfl rfl) fun a E => qv E (y_pickT rfl rfl) fun a E => wpQuiet_nil ?_
  intro w ok
  refine t_norm ?_
  obtain ⟨o304, hJ, hF⟩ := bnd hF
  refine c_mono (Q' := fun e a w => e = .normal ∧ Ok u m271 ([(pb0, Obj.cells [(Value.string (bs o304.s)), (Value.int .i64 o304.to_), (Value.string (bs o304.w.text)), (Value.int .i64 o304.w.at_), (Value.int .i64 o304.at_), (Value.int .i64 o304.e)].toArray 165 (0, 0))] :: M281 :: [(b14, Obj.cells [(Value.int .i64 x_270.Operand), (Value.int .i64 x_270.Mod), (Value.bool x_270.Not), c280].toArray 69 (0, 0))] :: [(b13, Obj.cells [(Value.int .i64 0), (Value.int .i64 0), (Value.bool false), (Value.slice none 0 0)].toArray 69 (0, 0))] :: S) w ∧ Env 103 a [(0, (Value.pointer (some ⟨pb0, 0, none⟩))), (2, (Value.pointer (some ⟨b13, 0, none⟩))), (3, (Value.pointer (some ⟨b14, 0, none⟩)))] ∧ o304.s.length ≤ LIMS ∧ InR .i64 o304.to_ ∧ o304.w.text.length ≤ LIMS ∧ InR .i64 o304.w.at_ ∧ InR .i64 o304.at_ ∧ InR .i64 o304.e) ?_ ?_
  · replace hF := hJ
    clear hJ
    refine c_if E rfl (fun hc311 => ?_) (fun hc311 => ?_)
    rotate_left
    · replace hF := cond_f hc311 hF
      refine wp_skip ?_
      obtain rfl := sj hF
      exact ⟨rfl, ⟨ok, E.keep [0, 2, 3], l288, r289, l290, r291, r292, r293⟩⟩
    replace hF := cond_t hc311 hF
    refine c_region <| lv E ok (y_move rfl) fun a E => ?_
    obtain ⟨r312, e313, hF⟩ := bnd hF
    refine l_call E go_113 rfl (calqueref08_parser_fail_w N 6 (show InR .i64 (6) by decide) r286 l288 r289 l290 r291 r292 r293 e313 hG ok) rfl rfl ?_
    rintro _ w ⟨⟨rfl, ok⟩, l314, r315, l316, r317, r318, r319⟩
    refine ⟨_, rfl, fun a E => ?_⟩
    refine wpList_nil ?_
    obtain rfl := sj hF
    exact ⟨rfl, ⟨ok, E.keep [0, 2, 3], l314, r315, l316, r317, r318, r319⟩⟩
  clear hJ
  intro e a w hO
  obtain ⟨rfl, ok, E, l320, r321, l322, r323, r324, r325⟩ := hO
  refine t_norm ?_
  obtain ⟨o326, hJ, hF⟩ := bnd hF
  refine c_mono (Q' := fun e a w => e = .normal ∧ ∃ m327 c336 M337, m271.le m327 ∧ Ok u m327 ([(pb0, Obj.cells [(Value.string (bs o326.1.s)), (Value.int .i64 o326.1.to_), (Value.string (bs o326.1.w.text)), (Value.int .i64 o326.1.w.at_), (Value.int .i64 o326.1.at_), (Value.int .i64 o326.1.e)].toArray 165 (0, 0))] :: M337 :: [(b14, Obj.cells [(Value.int .i64 o326.2.Operand), (Value.int .i64 o326.2.Mod), (Value.bool o326.2.Not), c336].toArray 69 (0, 0))] :: [(b13, Obj.cells [(Value.int .i64 0), (Value.int .i64 0), (Value.bool false), (Value.slice none 0 0)].toArray 69 (0, 0))] :: S) w ∧ Env 103 a [(0, (Value.pointer (some ⟨pb0, 0, none⟩))), (2, (Value.pointer (some ⟨b13, 0, none⟩))), (3, (Value.pointer (some ⟨b14, 0, none⟩)))] ∧ o326.1.s.length ≤ LIMS ∧ InR .i64 o326.1.to_ ∧ o326.1.w.text.length ≤ LIMS ∧ InR .i64 o326.1.w.at_ ∧ InR .i64 o326.1.at_ ∧ InR .i64 o326.1.e ∧ InR .i64 o326.2.Operand ∧ InR .i64 o326.2.Mod ∧ ORow 126 2 pSpan m327 c336 o326.2.Spans M337) ?_ ?_
  rotate_left
  · clear hJ
    intro e a w hO
    obtain ⟨rfl, m377, c386, M387, hle, ok, E, l378, r379, l380, r381, r382, r383, r384, r385, h388⟩ := hO
    have le_m0 := le_m0.trans hle
    have le_m233 := le_m233.trans hle
    refine b_norm ?_
    obtain rfl := sj hF
    exact step_n ⟨m377, c386, M387, le_m233, (ok.pk 4 [1, 0, 2, 3] rfl (by decide)), E.keep [0, 2, 3], l378, r379, l380, r381, r382, r383, r384, r385, h388⟩
  replace hF := hJ
  clear hJ
  have le_m271 := Mem.le.refl m271
  obtain ⟨r339, e340, hF⟩ := bnd hF
  obtain ⟨l355, e356, hF⟩ := bnd hF
  obtain rfl := sj hF
  refine k_begin [1, 4] (Cls u m271 ([(b14, Obj.cells [(Value.int .i64 x_270.Operand), (Value.int .i64 x_270.Mod), (Value.bool x_270.Not), c280].toArray 69 (0, 0))] :: [(b13, Obj.cells [(Value.int .i64 0), (Value.int .i64 0), (Value.bool false), (Value.slice none 0 0)].toArray 69 (0, 0))] :: [])) (Cls u m271 ([(b13, Obj.cells [(Value.int .i64 0), (Value.int .i64 0), (Value.bool false), (Value.slice none 0 0)].toArray 69 (0, 0))] :: [])) (by kernel_rfl) ?_
  intro w hw
  replace ok := okdrew ok hw
  clear hw
  refine k_next (cl1 ⟨m271, _, le_m271, ok, ⟨memAt 2 rfl, memAt 3 rfl, trivial⟩⟩ ⟨m271, _, le_m271, ok, ⟨memAt 3 rfl, trivial⟩⟩) fun hT => kt 0 E rfl hT (y_fieldAddr fo_69_3 rfl) fun a E => k_takeN 1 E rfl (by kernel_rfl) nP hT (y_load one_67 rfl (Holds.cown 0 rfl rfl)) rfl rfl fun a E => kt 2 E rfl hT (y_move rfl) fun a E => kt 3 E rfl hT (y_fieldAddr fo_69_0 rfl) fun a E => k_takeN 4 E rfl (by kernel_rfl) nP hT (y_load one_3 rfl (Holds.cown 0 rfl rfl)) rfl rfl fun a E => k_all [5] (by kernel_rfl) rfl (one_c ?_)
  · refine wpOp_of_list (o := _) rfl <| l_call E go_144 rfl (calqueref08_parser_span_w N x_270.Operand r278 o304 l320 r321 l322 r323 r324 r325 e340 hG ok) rfl rfl ?_
    rintro _ w ⟨m360, vs361, rfl, hle, ok, h362, l363, r364, l365, r366, r367, r368⟩
    have le_m0 := le_m0.trans hle
    have le_m233 := le_m233.trans hle
    have le_m271 := le_m271.trans hle
    have h282 := ORow.up mSpan hle h282
    obtain ⟨rfl, r369, r370⟩ := h362
    refine ⟨_, rfl, fun a E => ?_⟩
    refine wn <| k_next (cl1 ⟨m360, _, le_m271, ok, ⟨memAt 2 rfl, memAt 3 rfl, trivial⟩⟩ ⟨m360, _, le_m271, ok, ⟨memAt 3 rfl, trivial⟩⟩) fun hT => k_all [6] (by kernel_rfl) rfl (one_c ?_)
    · refine wpOp_of_list (o := _) rfl <| l_slit (R := pSpan) (xo := [.tmp 98]) (xs := ([r339.1] : List (Span))) E ok sl_67 zero_126 rfl ⟨⟨_, rfl, rfl, ⟨rfl, r369, r370⟩⟩, trivial⟩ rfl rfl rfl rfl fun c371 M372 a w E ok h373 => wn <| k_next (cl1 ⟨m360, _, le_m271, ok, ⟨memAt 3 rfl, memAt 4 rfl, trivial⟩⟩ ⟨m360, _, le_m271, ok, ⟨memAt 4 rfl, trivial⟩⟩) fun hT => k_all [7] (by kernel_rfl) rfl (one_c ?_)
      · refine wpOp_of_list (o := _) rfl <| l_app (R := pSpan) E ok 2 mSpan sl_67 Tryz.underlying67 rfl h282 (SrcOK.ofRow h373 0 rfl ok) e356 ⟨_, zero_126, rfl⟩ rfl rfl rfl rfl fun c374 M375 a w E ok h376 => wn <| k_next (cl1 ⟨m360, _, le_m271, ok, ⟨memAt 3 rfl, memAt 4 rfl, trivial⟩⟩ ⟨m360, _, le_m271, ok, ⟨memAt 4 rfl, trivial⟩⟩) fun hT => kt 8 E rfl hT (y_fieldAddr fo_69_3 rfl) fun a E => k_all [9] (by kernel_rfl) rfl (one_c ?_)
        · refine wpOp_of_list (o := _) rfl <| l_storeB E ok 3 rfl rfl rfl inf_67 (ORow.cells h376) rfl ⟨(ORow.one h376), trivial⟩ rfl rfl fun w ok => wn <| k_next (cl2 (by kernel_rfl) ⟨m360, _, le_m271, ok, ⟨memAt 4 rfl, trivial⟩⟩) fun hT => k_done (by kernel_rfl) ?_
          exact ⟨rfl, ⟨m360, c374, M375, le_m271, (ok.pk 5 [1, 2, 3, 4] rfl (by decide)), E.keep [0, 2, 3], l363, r364, l365, r366, r367, r368, r278, r279, h376⟩⟩

end Go.Proofs.YtidfofhmnlhfjaaGreatDoor
