/- The walks of this part: the model's run of each function yields what the plain function says. Printed by gen8.py. -/
import Derived.Test.YtmghnmfefpeelaaDoorExt34p2
import Derived.Test.YtmghnmfefpeelaaDoorWalk34p1
import Derived.Test.YtmghnmfefpeelaaDoorChecked
import Derived.Test.YtmghnmfefpeelaaDoorShelf
set_option linter.unusedVariables false
namespace Go.Proofs.YtmghnmfefpeelaaDoor
open Go.X

def calqueref34_Proper_R (u : World) (m0 : Mem) (S : Segs) (r : Bool) (a : Act) (w : World) : Prop :=
  Ok u m0 S w ∧ a.defers = [] ∧ RVs Tryd.prog a w [.t 4 (.bool r)]
set_option maxHeartbeats 4000000 in
set_option maxRecDepth 100000 in
theorem calqueref34_Proper_w {u : World} {m0 : Mem} {S : Segs} {w : World} (N : Nat) (vc_0 : List Value) (c_0 : Code) (hc_0 : pCode m0 vc_0 c_0) (i_1 : Int) (ri_1 : InR .i64 i_1) {r : Bool} (hF : calqueref34_Proper N c_0 i_1 = some r) (hG : Glob u) (ok : Ok u m0 S w) :
    Calls Tryd.prog 12 [.agg vc_0.toArray, Value.int .i64 i_1].toArray w fun e w' => (e = .returned (.bool r) ∧ Ok u m0 S w') := by
  obtain ⟨c1, c3, rfl, h2, h4⟩ := hc_0
  have hb0 := ok.base
  have le_m0 := Mem.le.refl m0
  unfold calqueref34_Proper at hF
  have fin : ∀ a w, calqueref34_Proper_R u m0 S r a w → bodyPost Tryd.prog Tryd.f12 (fun e w' => (e = .returned (.bool r) ∧ Ok u m0 S w')) .ret a w := by
    intro a w h
    obtain ⟨ok, hd, hrv⟩ := h
    exact c_ret2 [.t 4 (.bool r)] hd rfl hrv ⟨rfl, ok⟩
  refine enter Tryd.func12 rfl rfl rfl fun a E => ?_
  refine wp_seq ?_
  refine c_region ?_
  refine l_box E ok rfl rfl rfl fun b5 a w E ok => ?_
  refine l_val E ok (y_assign rfl) rfl rfl fun a E => ?_
  refine wpList_nil ?_
  refine t_norm ?_
  refine wp_seq ?_
  refine wp_seq ?_
  refine c_region ?_
  refine l_val E ok (y_move rfl) rfl rfl fun a E => ?_
  refine l_val E ok (y_lss rfl rfl) rfl rfl fun a E => ?_
  refine l_val E ok (y_move rfl) rfl rfl fun a E => ?_
  refine bsplit (decide (i_1 < 0)) (fun hc6 => ?_) (fun hc6 => ?_)
  · replace hF := cond_t hc6 hF
    replace E := E.upd 10 hc6 rfl
    iterate 5 refine l_skip E rfl rfl fun a E => ?_
    refine l_val E ok (y_pickT rfl rfl) rfl rfl fun a E => ?_
    refine wpList_nil ?_
    refine t_norm ?_
    refine c_if E rfl (fun _ => ?_) (fun h => by cases h)
    refine wp_seq ?_
    refine c_region ?_
    refine l_val E ok (y_assign rfl) rfl rfl fun a E => ?_
    refine wpList_nil ?_
    refine t_norm ?_
    refine wp_ret ?_
    refine t_ret ?_
    have hret : calqueref34_Proper_R u m0 S false a w := ⟨ok.drop, E.d, ⟨rv_t E rfl, trivial⟩⟩
    obtain rfl := Option.some.inj hF
    exact fin _ _ hret
  replace hF := cond_f hc6 hF
  replace E := E.upd 10 hc6 rfl
  refine l_val E ok (y_move rfl) rfl rfl fun a E => ?_
  refine l_val E ok (y_fieldAddr fo_25_1 rfl) rfl rfl fun a E => ?_
  refine l_val E ok (y_load one_23 rfl (Holds.own 0 rfl rfl)) rfl rfl fun a E => ?_
  refine l_val E ok (y_lenL sl_23 h4 rfl) rfl rfl fun a E => ?_
  refine l_val E ok (y_geq rfl rfl) rfl rfl fun a E => ?_
  refine l_val E ok (y_pickF rfl rfl) rfl rfl fun a E => ?_
  refine wpList_nil ?_
  refine t_norm ?_
  refine c_if E rfl (fun hc7 => ?_) (fun hc7 => ?_)
  · replace hF := cond_t hc7 hF
    refine wp_seq ?_
    refine c_region ?_
    refine l_val E ok (y_assign rfl) rfl rfl fun a E => ?_
    refine wpList_nil ?_
    refine t_norm ?_
    refine wp_ret ?_
    refine t_ret ?_
    have hret : calqueref34_Proper_R u m0 S false a w := ⟨ok.drop, E.d, ⟨rv_t E rfl, trivial⟩⟩
    obtain rfl := Option.some.inj hF
    exact fin _ _ hret
  replace hF := cond_f hc7 hF
  refine wp_skip ?_
  refine t_norm ?_
  refine wp_seq ?_
  refine c_region ?_
  refine l_val E ok (y_fieldAddr fo_25_1 rfl) rfl rfl fun a E => ?_
  refine l_val E ok (y_load one_23 rfl (Holds.own 0 rfl rfl)) rfl rfl fun a E => ?_
  refine l_val E ok (y_move rfl) rfl rfl fun a E => ?_
  obtain ⟨x8, e9, hF⟩ := bnd hF
  obtain ⟨b10, o11, es12, hl13, rr14, at15, yy16⟩ := idxAt sl_23 h4 e9 (P := Tryd.prog) (X := .tmp 18) (I := .tmp 19) (kd := .i64) (ev_of E rfl) (ev_of E rfl)
  obtain ⟨rfl, r17, r18, r19, l20⟩ := rr14
  refine l_val E ok (yy16 _ _) rfl rfl fun a E => ?_
  refine l_val E ok (y_loadAgg (cs := [(Value.int .i64 x8.Op), (Value.int .i64 x8.A), (Value.int .i64 x8.B), (Value.string (bs x8.S))]) agg_35 rfl rfl (Holds.ro at15)) rfl rfl fun a E => ?_
  refine l_alloc E ok zero_35 rfl rfl fun b21 a w E ok => ?_
  refine l_storeB E ok 0 rfl rfl rfl inf_35 rfl rfl ⟨rfl, rfl, rfl, rfl, trivial⟩ rfl rfl fun w ok => ?_
  refine wpList_nil ?_
  refine t_norm ?_
  refine wp_seq ?_
  refine c_region ?_
  refine l_val E ok (y_fieldAddr fo_35_0 rfl) rfl rfl fun a E => ?_
  refine l_val E ok (y_load one_3 rfl (Holds.own 0 rfl rfl)) rfl rfl fun a E => ?_
  refine l_val E ok (y_geq rfl rfl) rfl rfl fun a E => ?_
  refine l_val E ok (y_move rfl) rfl rfl fun a E => ?_
  refine bsplit (decide (x8.Op ≥ 5)) (fun hc22 => ?_) (fun hc22 => ?_)
  rotate_left
  · as_aux_lemma =>
      replace hF := cond_f hc22 hF
      replace E := E.upd 25 hc22 rfl
      iterate 3 refine l_skip E rfl rfl fun a E => ?_
      refine l_val E ok (y_pickF rfl rfl) rfl rfl fun a E => ?_
      refine l_val E ok (y_assign rfl) rfl rfl fun a E => ?_
      refine wpList_nil ?_
      refine t_norm ?_
      refine wp_seq ?_
      refine c_region ?_
      refine l_val E ok (y_fieldAddr fo_35_0 rfl) rfl rfl fun a E => ?_
      refine l_val E ok (y_load one_3 rfl (Holds.own 0 rfl rfl)) rfl rfl fun a E => ?_
      refine l_val E ok (y_eql rfl rfl) rfl rfl fun a E => ?_
      refine l_val E ok (y_move rfl) rfl rfl fun a E => ?_
      refine bsplit (x8.Op == 11) (fun hc248 => ?_) (fun hc248 => ?_)
      · as_aux_lemma =>
          replace hF := cond_t hc248 hF
          replace E := E.upd 33 hc248 rfl
          iterate 3 refine l_skip E rfl rfl fun a E => ?_
          refine l_val E ok (y_pickT rfl rfl) rfl rfl fun a E => ?_
          refine l_val E ok (y_assign rfl) rfl rfl fun a E => ?_
          refine wpList_nil ?_
          refine t_norm ?_
          refine wp_seq ?_
          refine wp_seq ?_
          obtain ⟨o249, hJ, hF⟩ := bnd hF
          refine c_mono (Q' := fun e a w => e = .normal ∧ Ok u m0 ([(b21, Obj.cells [(Value.int .i64 x8.Op), (Value.int .i64 x8.A), (Value.int .i64 x8.B), (Value.string (bs x8.S))].toArray 35 (0, 0))] :: [(b5, Obj.cells [c1, c3].toArray 25 (0, 0))] :: S) w ∧ Env 196 a [(1, (Value.int .i64 i_1)), (2, (Value.pointer (some ⟨b5, 0, none⟩))), (5, (Value.pointer (some ⟨b21, 0, none⟩))), (101, (Value.bool o249))]) ?_ ?_
          · as_aux_lemma =>
              replace hF := hJ
              clear hJ
              refine c_region ?_
              refine l_val E ok (y_move rfl) rfl rfl fun a E => ?_
              refine l_val E ok (y_move rfl) rfl rfl fun a E => ?_
              iterate 11 refine l_skip E rfl rfl fun a E => ?_
              refine l_val E ok (y_pickF rfl rfl) rfl rfl fun a E => ?_
              refine l_val E ok (y_move rfl) rfl rfl fun a E => ?_
              refine l_val E ok (y_move rfl) rfl rfl fun a E => ?_
              refine l_val E ok (y_move rfl) rfl rfl fun a E => ?_
              refine l_val E ok (y_fieldAddr fo_35_1 rfl) rfl rfl fun a E => ?_
              refine l_val E ok (y_load one_3 rfl (Holds.own 0 rfl rfl)) rfl rfl fun a E => ?_
              refine l_val E ok (y_move rfl) rfl rfl fun a E => ?_
              refine l_val E ok (y_leq rfl rfl) rfl rfl fun a E => ?_
              refine l_val E ok (y_move rfl) rfl rfl fun a E => ?_
              refine bsplit (decide (x8.A ≤ i_1)) (fun hc250 => ?_) (fun hc250 => ?_)
              · replace hF := cond_t hc250 hF
                replace E := E.upd 59 hc250 rfl
                iterate 6 refine l_skip E rfl rfl fun a E => ?_
                refine l_val E ok (y_pickT rfl rfl) rfl rfl fun a E => ?_
                refine l_val E ok (y_move rfl) rfl rfl fun a E => ?_
                iterate 8 refine l_skip E rfl rfl fun a E => ?_
                refine l_val E ok (y_pickT rfl rfl) rfl rfl fun a E => ?_
                refine l_val E ok (y_pickT rfl rfl) rfl rfl fun a E => ?_
                refine l_val E ok (y_pickF rfl rfl) rfl rfl fun a E => ?_
                refine l_val E ok (y_move rfl) rfl rfl fun a E => ?_
                iterate 11 refine l_skip E rfl rfl fun a E => ?_
                refine l_val E ok (y_pickT rfl rfl) rfl rfl fun a E => ?_
                refine l_val E ok (y_move rfl) rfl rfl fun a E => ?_
                iterate 8 refine l_skip E rfl rfl fun a E => ?_
                refine l_val E ok (y_pickT rfl rfl) rfl rfl fun a E => ?_
                refine wpList_nil ?_
                obtain rfl := Option.some.inj hF
                exact ⟨rfl, ⟨ok, E.keep [1, 2, 5, 101]⟩⟩
              replace hF := cond_f hc250 hF
              replace E := E.upd 59 hc250 rfl
              refine l_val E ok (y_fieldAddr fo_35_1 rfl) rfl rfl fun a E => ?_
              refine l_val E ok (y_load one_3 rfl (Holds.own 0 rfl rfl)) rfl rfl fun a E => ?_
              refine l_val E ok (y_fieldAddr fo_25_1 rfl) rfl rfl fun a E => ?_
              refine l_val E ok (y_load one_23 rfl (Holds.own 1 rfl rfl)) rfl rfl fun a E => ?_
              refine l_val E ok (y_lenL sl_23 h4 rfl) rfl rfl fun a E => ?_
              refine l_val E ok (y_geq rfl rfl) rfl rfl fun a E => ?_
              refine l_val E ok (y_pickF rfl rfl) rfl rfl fun a E => ?_
              refine l_val E ok (y_move rfl) rfl rfl fun a E => ?_
              refine bsplit (decide (x8.A ≥ (c_0.Ins.length : Int))) (fun hc251 => ?_) (fun hc251 => ?_)
              · replace hF := cond_t hc251 hF
                replace E := E.upd 67 hc251 rfl
                iterate 8 refine l_skip E rfl rfl fun a E => ?_
                refine l_val E ok (y_pickT rfl rfl) rfl rfl fun a E => ?_
                refine l_val E ok (y_pickT rfl rfl) rfl rfl fun a E => ?_
                refine l_val E ok (y_pickF rfl rfl) rfl rfl fun a E => ?_
                refine l_val E ok (y_move rfl) rfl rfl fun a E => ?_
                iterate 11 refine l_skip E rfl rfl fun a E => ?_
                refine l_val E ok (y_pickT rfl rfl) rfl rfl fun a E => ?_
                refine l_val E ok (y_move rfl) rfl rfl fun a E => ?_
                iterate 8 refine l_skip E rfl rfl fun a E => ?_
                refine l_val E ok (y_pickT rfl rfl) rfl rfl fun a E => ?_
                refine wpList_nil ?_
                obtain rfl := Option.some.inj hF
                exact ⟨rfl, ⟨ok, E.keep [1, 2, 5, 101]⟩⟩
              replace hF := cond_f hc251 hF
              replace E := E.upd 67 hc251 rfl
              refine l_val E ok (y_fieldAddr fo_25_1 rfl) rfl rfl fun a E => ?_
              refine l_val E ok (y_load one_23 rfl (Holds.own 1 rfl rfl)) rfl rfl fun a E => ?_
              refine l_val E ok (y_fieldAddr fo_35_1 rfl) rfl rfl fun a E => ?_
              refine l_val E ok (y_load one_3 rfl (Holds.own 0 rfl rfl)) rfl rfl fun a E => ?_
              obtain ⟨x252, e253, hF⟩ := bnd hF
              obtain ⟨b254, o255, es256, hl257, rr258, at259, yy260⟩ := idxAt sl_23 h4 e253 (P := Tryd.prog) (X := .tmp 69) (I := .tmp 71) (kd := .i64) (ev_of E rfl) (ev_of E rfl)
              obtain ⟨rfl, r261, r262, r263, l264⟩ := rr258
              refine l_val E ok (yy260 _ _) rfl rfl fun a E => ?_
              refine l_val E ok (y_fieldAddr fo_35_0 rfl) rfl rfl fun a E => ?_
              refine l_val E ok (y_load one_3 rfl (Holds.ro (At.sub 0 1 at259))) rfl rfl fun a E => ?_
              refine l_val E ok (y_eql rfl rfl) rfl rfl fun a E => ?_
              refine l_val E ok (y_pickF rfl rfl) rfl rfl fun a E => ?_
              refine l_val E ok (y_pickT rfl rfl) rfl rfl fun a E => ?_
              refine l_val E ok (y_pickF rfl rfl) rfl rfl fun a E => ?_
              refine l_val E ok (y_move rfl) rfl rfl fun a E => ?_
              refine bsplit (x252.Op == 11) (fun hc265 => ?_) (fun hc265 => ?_)
              · replace hF := cond_t hc265 hF
                replace E := E.upd 79 hc265 rfl
                iterate 11 refine l_skip E rfl rfl fun a E => ?_
                refine l_val E ok (y_pickT rfl rfl) rfl rfl fun a E => ?_
                refine l_val E ok (y_move rfl) rfl rfl fun a E => ?_
                iterate 8 refine l_skip E rfl rfl fun a E => ?_
                refine l_val E ok (y_pickT rfl rfl) rfl rfl fun a E => ?_
                refine wpList_nil ?_
                obtain rfl := Option.some.inj hF
                exact ⟨rfl, ⟨ok, E.keep [1, 2, 5, 101]⟩⟩
              replace hF := cond_f hc265 hF
              replace E := E.upd 79 hc265 rfl
              refine l_val E ok (y_move rfl) rfl rfl fun a E => ?_
              refine l_val E ok (y_not rfl) rfl rfl fun a E => ?_
              refine l_val E ok (y_move rfl) rfl rfl fun a E => ?_
              refine bsplit (!false) (fun hc266 => ?_) (fun hc266 => ?_)
              rotate_left
              · replace hF := cond_f hc266 hF
                replace E := E.upd 82 hc266 rfl
                iterate 2 refine l_skip E rfl rfl fun a E => ?_
                refine l_val E ok (y_pickF rfl rfl) rfl rfl fun a E => ?_
                refine l_val E ok (y_move rfl) rfl rfl fun a E => ?_
                iterate 3 refine l_skip E rfl rfl fun a E => ?_
                refine l_val E ok (y_pickF rfl rfl) rfl rfl fun a E => ?_
                refine l_val E ok (y_pickF rfl rfl) rfl rfl fun a E => ?_
                refine l_val E ok (y_move rfl) rfl rfl fun a E => ?_
                refine l_val E ok (y_fieldAddr fo_35_0 rfl) rfl rfl fun a E => ?_
                refine l_val E ok (y_load one_3 rfl (Holds.own 0 rfl rfl)) rfl rfl fun a E => ?_
                refine l_val E ok (y_neq rfl rfl) rfl rfl fun a E => ?_
                refine l_val E ok (y_move rfl) rfl rfl fun a E => ?_
                refine bsplit (x8.Op != 10) (fun hc271 => ?_) (fun hc271 => ?_)
                · replace hF := cond_t hc271 hF
                  replace E := E.upd 96 hc271 rfl
                  refine l_val E ok (y_fieldAddr fo_35_2 rfl) rfl rfl fun a E => ?_
                  refine l_val E ok (y_load one_3 rfl (Holds.own 0 rfl rfl)) rfl rfl fun a E => ?_
                  refine l_val E ok (y_neq rfl rfl) rfl rfl fun a E => ?_
                  refine l_val E ok (y_pickT rfl rfl) rfl rfl fun a E => ?_
                  refine l_val E ok (y_pickF rfl rfl) rfl rfl fun a E => ?_
                  refine wpList_nil ?_
                  obtain rfl := Option.some.inj hF
                  exact ⟨rfl, ⟨ok, E.keep [1, 2, 5, 101]⟩⟩
                replace hF := cond_f hc271 hF
                replace E := E.upd 96 hc271 rfl
                iterate 3 refine l_skip E rfl rfl fun a E => ?_
                refine l_val E ok (y_pickF rfl rfl) rfl rfl fun a E => ?_
                refine l_val E ok (y_pickF rfl rfl) rfl rfl fun a E => ?_
                refine wpList_nil ?_
                obtain rfl := Option.some.inj hF
                exact ⟨rfl, ⟨ok, E.keep [1, 2, 5, 101]⟩⟩
              replace hF := cond_t hc266 hF
              replace E := E.upd 82 hc266 rfl
              refine l_val E ok (y_move rfl) rfl rfl fun a E => ?_
              refine l_val E ok (y_not rfl) rfl rfl fun a E => ?_
              refine l_val E ok (y_pickT rfl rfl) rfl rfl fun a E => ?_
              refine l_val E ok (y_move rfl) rfl rfl fun a E => ?_
              refine bsplit (!true) (fun hc267 => ?_) (fun hc267 => ?_)
              rotate_left
              · replace hF := cond_f hc267 hF
                replace E := E.upd 86 hc267 rfl
                iterate 3 refine l_skip E rfl rfl fun a E => ?_
                refine l_val E ok (y_pickF rfl rfl) rfl rfl fun a E => ?_
                refine l_val E ok (y_pickF rfl rfl) rfl rfl fun a E => ?_
                refine l_val E ok (y_move rfl) rfl rfl fun a E => ?_
                refine l_val E ok (y_fieldAddr fo_35_0 rfl) rfl rfl fun a E => ?_
                refine l_val E ok (y_load one_3 rfl (Holds.own 0 rfl rfl)) rfl rfl fun a E => ?_
                refine l_val E ok (y_neq rfl rfl) rfl rfl fun a E => ?_
                refine l_val E ok (y_move rfl) rfl rfl fun a E => ?_
                refine bsplit (x8.Op != 10) (fun hc270 => ?_) (fun hc270 => ?_)
                · replace hF := cond_t hc270 hF
                  replace E := E.upd 96 hc270 rfl
                  refine l_val E ok (y_fieldAddr fo_35_2 rfl) rfl rfl fun a E => ?_
                  refine l_val E ok (y_load one_3 rfl (Holds.own 0 rfl rfl)) rfl rfl fun a E => ?_
                  refine l_val E ok (y_neq rfl rfl) rfl rfl fun a E => ?_
                  refine l_val E ok (y_pickT rfl rfl) rfl rfl fun a E => ?_
                  refine l_val E ok (y_pickF rfl rfl) rfl rfl fun a E => ?_
                  refine wpList_nil ?_
                  obtain rfl := Option.some.inj hF
                  exact ⟨rfl, ⟨ok, E.keep [1, 2, 5, 101]⟩⟩
                replace hF := cond_f hc270 hF
                replace E := E.upd 96 hc270 rfl
                iterate 3 refine l_skip E rfl rfl fun a E => ?_
                refine l_val E ok (y_pickF rfl rfl) rfl rfl fun a E => ?_
                refine l_val E ok (y_pickF rfl rfl) rfl rfl fun a E => ?_
                refine wpList_nil ?_
                obtain rfl := Option.some.inj hF
                exact ⟨rfl, ⟨ok, E.keep [1, 2, 5, 101]⟩⟩
              replace hF := cond_t hc267 hF
              replace E := E.upd 86 hc267 rfl
              refine l_val E ok (y_fieldAddr fo_35_1 rfl) rfl rfl fun a E => ?_
              refine l_val E ok (y_load one_3 rfl (Holds.own 0 rfl rfl)) rfl rfl fun a E => ?_
              refine l_val E ok (y_neq rfl rfl) rfl rfl fun a E => ?_
              refine l_val E ok (y_pickT rfl rfl) rfl rfl fun a E => ?_
              refine l_val E ok (y_pickF rfl rfl) rfl rfl fun a E => ?_
              refine l_val E ok (y_move rfl) rfl rfl fun a E => ?_
              refine bsplit (x8.A != 0) (fun hc268 => ?_) (fun hc268 => ?_)
              · replace hF := cond_t hc268 hF
                replace E := E.upd 92 hc268 rfl
                iterate 8 refine l_skip E rfl rfl fun a E => ?_
                refine l_val E ok (y_pickT rfl rfl) rfl rfl fun a E => ?_
                refine wpList_nil ?_
                obtain rfl := Option.some.inj hF
                exact ⟨rfl, ⟨ok, E.keep [1, 2, 5, 101]⟩⟩
              replace hF := cond_f hc268 hF
              replace E := E.upd 92 hc268 rfl
              refine l_val E ok (y_fieldAddr fo_35_0 rfl) rfl rfl fun a E => ?_
              refine l_val E ok (y_load one_3 rfl (Holds.own 0 rfl rfl)) rfl rfl fun a E => ?_
              refine l_val E ok (y_neq rfl rfl) rfl rfl fun a E => ?_
              refine l_val E ok (y_move rfl) rfl rfl fun a E => ?_
              refine bsplit (x8.Op != 10) (fun hc269 => ?_) (fun hc269 => ?_)
              · replace hF := cond_t hc269 hF
                replace E := E.upd 96 hc269 rfl
                refine l_val E ok (y_fieldAddr fo_35_2 rfl) rfl rfl fun a E => ?_
                refine l_val E ok (y_load one_3 rfl (Holds.own 0 rfl rfl)) rfl rfl fun a E => ?_
                refine l_val E ok (y_neq rfl rfl) rfl rfl fun a E => ?_
                refine l_val E ok (y_pickT rfl rfl) rfl rfl fun a E => ?_
                refine l_val E ok (y_pickF rfl rfl) rfl rfl fun a E => ?_
                refine wpList_nil ?_
                obtain rfl := Option.some.inj hF
                exact ⟨rfl, ⟨ok, E.keep [1, 2, 5, 101]⟩⟩
              replace hF := cond_f hc269 hF
              replace E := E.upd 96 hc269 rfl
              iterate 3 refine l_skip E rfl rfl fun a E => ?_
              refine l_val E ok (y_pickF rfl rfl) rfl rfl fun a E => ?_
              refine l_val E ok (y_pickF rfl rfl) rfl rfl fun a E => ?_
              refine wpList_nil ?_
              obtain rfl := Option.some.inj hF
              exact ⟨rfl, ⟨ok, E.keep [1, 2, 5, 101]⟩⟩
          clear hJ
          intro e a w hO
          obtain ⟨rfl, ok, E⟩ := hO
          refine t_norm ?_
          refine c_if E rfl (fun hc272 => ?_) (fun hc272 => ?_)
          · replace hF := cond_t hc272 hF
            refine wp_seq ?_
            refine c_region ?_
            refine l_val E ok (y_assign rfl) rfl rfl fun a E => ?_
            refine wpList_nil ?_
            refine t_norm ?_
            refine wp_ret ?_
            refine t_ret ?_
            have hret : calqueref34_Proper_R u m0 S false a w := ⟨ok.drop.drop, E.d, ⟨rv_t E rfl, trivial⟩⟩
            obtain rfl := Option.some.inj hF
            exact fin _ _ hret
          replace hF := cond_f hc272 hF
          refine wp_skip ?_
          refine t_norm ?_
          refine wp_seq ?_
          refine wp_seq ?_
          refine c_region ?_
          refine l_val E ok (y_fieldAddr fo_35_0 rfl) rfl rfl fun a E => ?_
          refine l_val E ok (y_load one_3 rfl (Holds.own 0 rfl rfl)) rfl rfl fun a E => ?_
          refine wpList_nil ?_
          refine t_norm ?_
          refine wp_block ?_
          refine wp_seq ?_
          refine c_region ?_
          refine l_val E ok (y_eql rfl rfl) rfl rfl fun a E => ?_
          refine l_val E ok (y_assign rfl) rfl rfl fun a E => ?_
          refine wpList_nil ?_
          refine t_norm ?_
          refine c_if E rfl (fun hc273 => ?_) (fun hc273 => ?_)
          · replace hF := cond_t hc273 hF
            refine wp_seq ?_
            refine c_region ?_
            refine l_val E ok (y_fieldAddr fo_35_3 rfl) rfl rfl fun a E => ?_
            refine l_val E ok (y_load one_9 rfl (Holds.own 0 rfl rfl)) rfl rfl fun a E => ?_
            refine l_val E ok (y_sneq rfl rfl) rfl rfl fun a E => ?_
            refine l_val E ok (y_assign rfl) rfl rfl fun a E => ?_
            refine wpList_nil ?_
            refine t_norm ?_
            refine wp_ret ?_
            refine b_ret ?_
            refine t_ret ?_
            have hret : calqueref34_Proper_R u m0 S (x8.S != ([])) a w := ⟨ok.drop.drop, E.d, ⟨rv_t E rfl, trivial⟩⟩
            obtain rfl := Option.some.inj hF
            exact fin _ _ hret
          replace hF := cond_f hc273 hF
          refine wp_seq ?_
          refine wp_seq ?_
          refine c_region ?_
          refine l_val E ok (y_eql rfl rfl) rfl rfl fun a E => ?_
          refine l_val E ok (y_assign rfl) rfl rfl fun a E => ?_
          refine wpList_nil ?_
          refine t_norm ?_
          obtain ⟨o274, hJ, hF⟩ := bnd hF
          refine c_mono (Q' := fun e a w => e = .normal ∧ Ok u m0 ([(b21, Obj.cells [(Value.int .i64 x8.Op), (Value.int .i64 x8.A), (Value.int .i64 x8.B), (Value.string (bs x8.S))].toArray 35 (0, 0))] :: [(b5, Obj.cells [c1, c3].toArray 25 (0, 0))] :: S) w ∧ Env 196 a [(1, (Value.int .i64 i_1)), (2, (Value.pointer (some ⟨b5, 0, none⟩))), (5, (Value.pointer (some ⟨b21, 0, none⟩))), (103, (Value.int .i64 x8.Op)), (109, (Value.bool o274))]) ?_ ?_
          · replace hF := hJ
            clear hJ
            refine c_if E rfl (fun hc275 => ?_) (fun hc275 => ?_)
            · replace hF := cond_t hc275 hF
              refine wp_skip ?_
              obtain rfl := Option.some.inj hF
              exact ⟨rfl, ⟨ok, E.keep [1, 2, 5, 103, 109]⟩⟩
            replace hF := cond_f hc275 hF
            refine wp_seq ?_
            refine c_region ?_
            refine l_val E ok (y_eql rfl rfl) rfl rfl fun a E => ?_
            refine l_val E ok (y_assign rfl) rfl rfl fun a E => ?_
            refine wpList_nil ?_
            refine t_norm ?_
            refine c_if E rfl (fun hc276 => ?_) (fun hc276 => ?_)
            · replace hF := cond_t hc276 hF
              refine wp_skip ?_
              obtain rfl := Option.some.inj hF
              exact ⟨rfl, ⟨ok, E.keep [1, 2, 5, 103, 109]⟩⟩
            replace hF := cond_f hc276 hF
            refine wp_seq ?_
            refine c_region ?_
            refine l_val E ok (y_eql rfl rfl) rfl rfl fun a E => ?_
            refine l_val E ok (y_assign rfl) rfl rfl fun a E => ?_
            refine wpList_nil ?_
            refine t_norm ?_
            refine c_if E rfl (fun hc277 => ?_) (fun hc277 => ?_)
            · replace hF := cond_t hc277 hF
              refine wp_skip ?_
              obtain rfl := Option.some.inj hF
              exact ⟨rfl, ⟨ok, E.keep [1, 2, 5, 103, 109]⟩⟩
            replace hF := cond_f hc277 hF
            refine wp_seq ?_
            refine c_region ?_
            refine l_val E ok (y_eql rfl rfl) rfl rfl fun a E => ?_
            refine l_val E ok (y_assign rfl) rfl rfl fun a E => ?_
            refine wpList_nil ?_
            refine t_norm ?_
            refine c_if E rfl (fun hc278 => ?_) (fun hc278 => ?_)
            · replace hF := cond_t hc278 hF
              refine wp_skip ?_
              obtain rfl := Option.some.inj hF
              exact ⟨rfl, ⟨ok, E.keep [1, 2, 5, 103, 109]⟩⟩
            replace hF := cond_f hc278 hF
            refine c_region ?_
            refine l_val E ok (y_eql rfl rfl) rfl rfl fun a E => ?_
            refine l_val E ok (y_assign rfl) rfl rfl fun a E => ?_
            refine wpList_nil ?_
            obtain rfl := Option.some.inj hF
            exact ⟨rfl, ⟨ok, E.keep [1, 2, 5, 103, 109]⟩⟩
          clear hJ
          intro e a w hO
          obtain ⟨rfl, ok, E⟩ := hO
          refine t_norm ?_
          refine c_if E rfl (fun hc279 => ?_) (fun hc279 => ?_)
          · replace hF := cond_t hc279 hF
            refine wp_seq ?_
            refine c_region ?_
            refine l_val E ok (y_fieldAddr fo_35_3 rfl) rfl rfl fun a E => ?_
            refine l_val E ok (y_load one_9 rfl (Holds.own 0 rfl rfl)) rfl rfl fun a E => ?_
            obtain ⟨r280, e281, hF⟩ := bnd hF
            refine l_call E go_23 rfl (calqueref25_Name_w N x8.S l20 e281 hG ok) rfl rfl ?_
            rintro _ w ⟨rfl, ok⟩
            refine ⟨_, rfl, fun a E => ?_⟩
            refine l_val E ok (y_assign rfl) rfl rfl fun a E => ?_
            refine wpList_nil ?_
            refine t_norm ?_
            refine wp_ret ?_
            refine b_ret ?_
            refine t_ret ?_
            have hret : calqueref34_Proper_R u m0 S r280 a w := ⟨ok.drop.drop, E.d, ⟨rv_t E rfl, trivial⟩⟩
            obtain rfl := Option.some.inj hF
            exact fin _ _ hret
          replace hF := cond_f hc279 hF
          refine wp_seq ?_
          refine c_region ?_
          refine l_val E ok (y_eql rfl rfl) rfl rfl fun a E => ?_
          refine l_val E ok (y_assign rfl) rfl rfl fun a E => ?_
          refine wpList_nil ?_
          refine t_norm ?_
          refine c_if E rfl (fun hc282 => ?_) (fun hc282 => ?_)
          · replace hF := cond_t hc282 hF
            refine wp_seq ?_
            refine c_region ?_
            refine l_val E ok (y_fieldAddr fo_35_3 rfl) rfl rfl fun a E => ?_
            refine l_val E ok (y_load one_9 rfl (Holds.own 0 rfl rfl)) rfl rfl fun a E => ?_
            refine l_val E ok (y_seql rfl rfl) rfl rfl fun a E => ?_
            refine l_val E ok (y_move rfl) rfl rfl fun a E => ?_
            refine bsplit (x8.S == ([])) (fun hc283 => ?_) (fun hc283 => ?_)
            · replace hF := cond_t hc283 hF
              replace E := E.upd 123 hc283 rfl
              iterate 3 refine l_skip E rfl rfl fun a E => ?_
              refine l_val E ok (y_pickT rfl rfl) rfl rfl fun a E => ?_
              refine l_val E ok (y_move rfl) rfl rfl fun a E => ?_
              iterate 3 refine l_skip E rfl rfl fun a E => ?_
              refine l_val E ok (y_pickT rfl rfl) rfl rfl fun a E => ?_
              refine l_val E ok (y_assign rfl) rfl rfl fun a E => ?_
              refine wpList_nil ?_
              refine t_norm ?_
              refine wp_ret ?_
              refine b_ret ?_
              refine t_ret ?_
              have hret : calqueref34_Proper_R u m0 S true a w := ⟨ok.drop.drop, E.d, ⟨rv_t E rfl, trivial⟩⟩
              obtain rfl := Option.some.inj hF
              exact fin _ _ hret
            replace hF := cond_f hc283 hF
            replace E := E.upd 123 hc283 rfl
            refine l_val E ok (y_fieldAddr fo_35_3 rfl) rfl rfl fun a E => ?_
            refine l_val E ok (y_load one_9 rfl (Holds.own 0 rfl rfl)) rfl rfl fun a E => ?_
            refine l_val E ok (y_seql rfl rfl) rfl rfl fun a E => ?_
            refine l_val E ok (y_pickF rfl rfl) rfl rfl fun a E => ?_
            refine l_val E ok (y_move rfl) rfl rfl fun a E => ?_
            refine bsplit (x8.S == ([105, 110, 116, 101, 103, 101, 114])) (fun hc284 => ?_) (fun hc284 => ?_)
            · replace hF := cond_t hc284 hF
              replace E := E.upd 128 hc284 rfl
              iterate 3 refine l_skip E rfl rfl fun a E => ?_
              refine l_val E ok (y_pickT rfl rfl) rfl rfl fun a E => ?_
              refine l_val E ok (y_assign rfl) rfl rfl fun a E => ?_
              refine wpList_nil ?_
              refine t_norm ?_
              refine wp_ret ?_
              refine b_ret ?_
              refine t_ret ?_
              have hret : calqueref34_Proper_R u m0 S true a w := ⟨ok.drop.drop, E.d, ⟨rv_t E rfl, trivial⟩⟩
              obtain rfl := Option.some.inj hF
              exact fin _ _ hret
            replace hF := cond_f hc284 hF
            replace E := E.upd 128 hc284 rfl
            refine l_val E ok (y_fieldAddr fo_35_3 rfl) rfl rfl fun a E => ?_
            refine l_val E ok (y_load one_9 rfl (Holds.own 0 rfl rfl)) rfl rfl fun a E => ?_
            refine l_val E ok (y_seql rfl rfl) rfl rfl fun a E => ?_
            refine l_val E ok (y_pickF rfl rfl) rfl rfl fun a E => ?_
            refine l_val E ok (y_assign rfl) rfl rfl fun a E => ?_
            refine wpList_nil ?_
            refine t_norm ?_
            refine wp_ret ?_
            refine b_ret ?_
            refine t_ret ?_
            have hret : calqueref34_Proper_R u m0 S (x8.S == ([112, 101, 114, 99, 101, 110, 116])) a w := ⟨ok.drop.drop, E.d, ⟨rv_t E rfl, trivial⟩⟩
            obtain rfl := Option.some.inj hF
            exact fin _ _ hret
          replace hF := cond_f hc282 hF
          refine wp_seq ?_
          refine c_region ?_
          refine l_val E ok (y_eql rfl rfl) rfl rfl fun a E => ?_
          refine l_val E ok (y_assign rfl) rfl rfl fun a E => ?_
          refine wpList_nil ?_
          refine t_norm ?_
          refine c_if E rfl (fun hc285 => ?_) (fun hc285 => ?_)
          · replace hF := cond_t hc285 hF
            refine wp_seq ?_
            refine c_region ?_
            refine l_val E ok (y_fieldAddr fo_35_3 rfl) rfl rfl fun a E => ?_
            refine l_val E ok (y_load one_9 rfl (Holds.own 0 rfl rfl)) rfl rfl fun a E => ?_
            obtain ⟨r286, e287, hF⟩ := bnd hF
            refine l_call E go_24 rfl (calqueref26_Skeleton_w N x8.S l20 e287 hG ok) rfl rfl ?_
            rintro _ w ⟨rfl, ok⟩
            refine ⟨_, rfl, fun a E => ?_⟩
            refine l_val E ok (y_assign rfl) rfl rfl fun a E => ?_
            refine wpList_nil ?_
            refine t_norm ?_
            refine wp_ret ?_
            refine b_ret ?_
            refine t_ret ?_
            have hret : calqueref34_Proper_R u m0 S r286 a w := ⟨ok.drop.drop, E.d, ⟨rv_t E rfl, trivial⟩⟩
            obtain rfl := Option.some.inj hF
            exact fin _ _ hret
          replace hF := cond_f hc285 hF
          refine wp_seq ?_
          refine c_region ?_
          refine l_val E ok (y_eql rfl rfl) rfl rfl fun a E => ?_
          refine l_val E ok (y_assign rfl) rfl rfl fun a E => ?_
          refine wpList_nil ?_
          refine t_norm ?_
          refine c_if E rfl (fun hc288 => ?_) (fun hc288 => ?_)
          · replace hF := cond_t hc288 hF
            refine wp_seq ?_
            refine c_region ?_
            refine l_val E ok (y_fieldAddr fo_35_3 rfl) rfl rfl fun a E => ?_
            refine l_val E ok (y_load one_9 rfl (Holds.own 0 rfl rfl)) rfl rfl fun a E => ?_
            refine l_val E ok (y_seql rfl rfl) rfl rfl fun a E => ?_
            refine l_val E ok (y_move rfl) rfl rfl fun a E => ?_
            refine bsplit (x8.S == ([])) (fun hc289 => ?_) (fun hc289 => ?_)
            rotate_left
            · replace hF := cond_f hc289 hF
              replace E := E.upd 143 hc289 rfl
              iterate 3 refine l_skip E rfl rfl fun a E => ?_
              refine l_val E ok (y_pickF rfl rfl) rfl rfl fun a E => ?_
              refine l_val E ok (y_move rfl) rfl rfl fun a E => ?_
              iterate 3 refine l_skip E rfl rfl fun a E => ?_
              refine l_val E ok (y_pickF rfl rfl) rfl rfl fun a E => ?_
              refine l_val E ok (y_assign rfl) rfl rfl fun a E => ?_
              refine wpList_nil ?_
              refine t_norm ?_
              refine wp_ret ?_
              refine b_ret ?_
              refine t_ret ?_
              have hret : calqueref34_Proper_R u m0 S false a w := ⟨ok.drop.drop, E.d, ⟨rv_t E rfl, trivial⟩⟩
              obtain rfl := Option.some.inj hF
              exact fin _ _ hret
            replace hF := cond_t hc289 hF
            replace E := E.upd 143 hc289 rfl
            refine l_val E ok (y_fieldAddr fo_35_2 rfl) rfl rfl fun a E => ?_
            refine l_val E ok (y_load one_3 rfl (Holds.own 0 rfl rfl)) rfl rfl fun a E => ?_
            obtain ⟨r290, e291, hF⟩ := bnd hF
            refine l_call E go_25 rfl (calqueref26_Selection_w N x8.B r19 e291 hG ok) rfl rfl ?_
            rintro _ w ⟨rfl, ok⟩
            refine ⟨_, rfl, fun a E => ?_⟩
            refine l_val E ok (y_pickT rfl rfl) rfl rfl fun a E => ?_
            refine l_val E ok (y_move rfl) rfl rfl fun a E => ?_
            refine bsplit r290 (fun hc292 => ?_) (fun hc292 => ?_)
            rotate_left
            · replace hF := cond_f hc292 hF
              replace E := E.upd 148 hc292 rfl
              iterate 3 refine l_skip E rfl rfl fun a E => ?_
              refine l_val E ok (y_pickF rfl rfl) rfl rfl fun a E => ?_
              refine l_val E ok (y_assign rfl) rfl rfl fun a E => ?_
              refine wpList_nil ?_
              refine t_norm ?_
              refine wp_ret ?_
              refine b_ret ?_
              refine t_ret ?_
              have hret : calqueref34_Proper_R u m0 S false a w := ⟨ok.drop.drop, E.d, ⟨rv_t E rfl, trivial⟩⟩
              obtain rfl := Option.some.inj hF
              exact fin _ _ hret
            replace hF := cond_t hc292 hF
            replace E := E.upd 148 hc292 rfl
            refine l_val E ok (y_loadAgg (cs := [c1, c3]) agg_25 rfl rfl (Holds.own 1 rfl rfl)) rfl rfl fun a E => ?_
            refine l_val E ok (y_move rfl) rfl rfl fun a E => ?_
            obtain ⟨r293, e294, hF⟩ := bnd hF
            refine l_call E go_26 rfl (calqueref34_cases_w N _ c_0 ⟨_, _, rfl, h2, h4⟩ i_1 ri_1 e294 hG ok) rfl rfl ?_
            rintro _ w ⟨rfl, ok⟩
            refine ⟨_, rfl, fun a E => ?_⟩
            refine l_val E ok (y_pickT rfl rfl) rfl rfl fun a E => ?_
            refine l_val E ok (y_assign rfl) rfl rfl fun a E => ?_
            refine wpList_nil ?_
            refine t_norm ?_
            refine wp_ret ?_
            refine b_ret ?_
            refine t_ret ?_
            have hret : calqueref34_Proper_R u m0 S r293 a w := ⟨ok.drop.drop, E.d, ⟨rv_t E rfl, trivial⟩⟩
            obtain rfl := Option.some.inj hF
            exact fin _ _ hret
          replace hF := cond_f hc288 hF
          refine wp_seq ?_
          refine c_region ?_
          refine l_val E ok (y_eql rfl rfl) rfl rfl fun a E => ?_
          refine l_val E ok (y_assign rfl) rfl rfl fun a E => ?_
          refine wpList_nil ?_
          refine t_norm ?_
          refine c_if E rfl (fun hc295 => ?_) (fun hc295 => ?_)
          · as_aux_lemma =>
              replace hF := cond_t hc295 hF
              refine wp_seq ?_
              refine c_region ?_
              refine l_val E ok (y_move rfl) rfl rfl fun a E => ?_
              refine l_val E ok (y_gtr rfl rfl) rfl rfl fun a E => ?_
              refine l_val E ok (y_move rfl) rfl rfl fun a E => ?_
              refine bsplit (decide (i_1 > 0)) (fun hc296 => ?_) (fun hc296 => ?_)
              rotate_left
              · replace hF := cond_f hc296 hF
                replace E := E.upd 157 hc296 rfl
                iterate 18 refine l_skip E rfl rfl fun a E => ?_
                refine l_val E ok (y_pickF rfl rfl) rfl rfl fun a E => ?_
                refine l_val E ok (y_assign rfl) rfl rfl fun a E => ?_
                refine wpList_nil ?_
                refine t_norm ?_
                refine wp_ret ?_
                refine b_ret ?_
                refine t_ret ?_
                have hret : calqueref34_Proper_R u m0 S false a w := ⟨ok.drop.drop, E.d, ⟨rv_t E rfl, trivial⟩⟩
                obtain rfl := Option.some.inj hF
                exact fin _ _ hret
              replace hF := cond_t hc296 hF
              replace E := E.upd 157 hc296 rfl
              refine l_val E ok (y_fieldAddr fo_25_1 rfl) rfl rfl fun a E => ?_
              refine l_val E ok (y_load one_23 rfl (Holds.own 1 rfl rfl)) rfl rfl fun a E => ?_
              refine l_val E ok (y_move rfl) rfl rfl fun a E => ?_
              refine l_val E ok (y_sub rfl rfl (InR.dec ri_1 (show InR .i64 (0) by decide) hc296)) rfl rfl fun a E => ?_
              obtain ⟨x297, e298, hF⟩ := bnd hF
              obtain ⟨b299, o300, es301, hl302, rr303, at304, yy305⟩ := idxAt sl_23 h4 e298 (P := Tryd.prog) (X := .tmp 159) (I := .tmp 161) (kd := .i64) (ev_of E rfl) (ev_of E rfl)
              obtain ⟨rfl, r306, r307, r308, l309⟩ := rr303
              refine l_val E ok (yy305 _ _) rfl rfl fun a E => ?_
              refine l_val E ok (y_fieldAddr fo_35_0 rfl) rfl rfl fun a E => ?_
              refine l_val E ok (y_load one_3 rfl (Holds.ro (At.sub 0 1 at304))) rfl rfl fun a E => ?_
              refine l_val E ok (y_eql rfl rfl) rfl rfl fun a E => ?_
              refine l_val E ok (y_move rfl) rfl rfl fun a E => ?_
              refine bsplit (x297.Op == 10) (fun hc310 => ?_) (fun hc310 => ?_)
              · replace hF := cond_t hc310 hF
                replace E := E.upd 166 hc310 rfl
                iterate 8 refine l_skip E rfl rfl fun a E => ?_
                refine l_val E ok (y_pickT rfl rfl) rfl rfl fun a E => ?_
                refine l_val E ok (y_pickT rfl rfl) rfl rfl fun a E => ?_
                refine l_val E ok (y_assign rfl) rfl rfl fun a E => ?_
                refine wpList_nil ?_
                refine t_norm ?_
                refine wp_ret ?_
                refine b_ret ?_
                refine t_ret ?_
                have hret : calqueref34_Proper_R u m0 S true a w := ⟨ok.drop.drop, E.d, ⟨rv_t E rfl, trivial⟩⟩
                obtain rfl := Option.some.inj hF
                exact fin _ _ hret
              replace hF := cond_f hc310 hF
              replace E := E.upd 166 hc310 rfl
              refine l_val E ok (y_fieldAddr fo_25_1 rfl) rfl rfl fun a E => ?_
              refine l_val E ok (y_load one_23 rfl (Holds.own 1 rfl rfl)) rfl rfl fun a E => ?_
              refine l_val E ok (y_move rfl) rfl rfl fun a E => ?_
              refine l_val E ok (y_sub rfl rfl (InR.dec ri_1 (show InR .i64 (0) by decide) hc296)) rfl rfl fun a E => ?_
              obtain ⟨x311, e312, hF⟩ := bnd hF
              obtain ⟨b313, o314, es315, hl316, rr317, at318, yy319⟩ := idxAt sl_23 h4 e312 (P := Tryd.prog) (X := .tmp 168) (I := .tmp 170) (kd := .i64) (ev_of E rfl) (ev_of E rfl)
              obtain ⟨rfl, r320, r321, r322, l323⟩ := rr317
              refine l_val E ok (yy319 _ _) rfl rfl fun a E => ?_
              refine l_val E ok (y_fieldAddr fo_35_0 rfl) rfl rfl fun a E => ?_
              refine l_val E ok (y_load one_3 rfl (Holds.ro (At.sub 0 1 at318))) rfl rfl fun a E => ?_
              refine l_val E ok (y_eql rfl rfl) rfl rfl fun a E => ?_
              refine l_val E ok (y_pickF rfl rfl) rfl rfl fun a E => ?_
              refine l_val E ok (y_pickT rfl rfl) rfl rfl fun a E => ?_
              refine l_val E ok (y_assign rfl) rfl rfl fun a E => ?_
              refine wpList_nil ?_
              refine t_norm ?_
              refine wp_ret ?_
              refine b_ret ?_
              refine t_ret ?_
              have hret : calqueref34_Proper_R u m0 S (x311.Op == 11) a w := ⟨ok.drop.drop, E.d, ⟨rv_t E rfl, trivial⟩⟩
              obtain rfl := Option.some.inj hF
              exact fin _ _ hret
          replace hF := cond_f hc295 hF
          refine wp_seq ?_
          refine wp_seq ?_
          refine c_region ?_
          refine l_val E ok (y_eql rfl rfl) rfl rfl fun a E => ?_
          refine l_val E ok (y_assign rfl) rfl rfl fun a E => ?_
          refine wpList_nil ?_
          refine t_norm ?_
          obtain ⟨o324, hJ, hF⟩ := bnd hF
          refine c_mono (Q' := fun e a w => e = .normal ∧ Ok u m0 ([(b21, Obj.cells [(Value.int .i64 x8.Op), (Value.int .i64 x8.A), (Value.int .i64 x8.B), (Value.string (bs x8.S))].toArray 35 (0, 0))] :: [(b5, Obj.cells [c1, c3].toArray 25 (0, 0))] :: S) w ∧ Env 196 a [(1, (Value.int .i64 i_1)), (2, (Value.pointer (some ⟨b5, 0, none⟩))), (5, (Value.pointer (some ⟨b21, 0, none⟩))), (103, (Value.int .i64 x8.Op)), (177, (Value.bool o324))]) ?_ ?_
          · replace hF := hJ
            clear hJ
            refine c_if E rfl (fun hc325 => ?_) (fun hc325 => ?_)
            · replace hF := cond_t hc325 hF
              refine wp_skip ?_
              obtain rfl := Option.some.inj hF
              exact ⟨rfl, ⟨ok, E.keep [1, 2, 5, 103, 177]⟩⟩
            replace hF := cond_f hc325 hF
            refine c_region ?_
            refine l_val E ok (y_eql rfl rfl) rfl rfl fun a E => ?_
            refine l_val E ok (y_assign rfl) rfl rfl fun a E => ?_
            refine wpList_nil ?_
            obtain rfl := Option.some.inj hF
            exact ⟨rfl, ⟨ok, E.keep [1, 2, 5, 103, 177]⟩⟩
          clear hJ
          intro e a w hO
          obtain ⟨rfl, ok, E⟩ := hO
          refine t_norm ?_
          refine c_if E rfl (fun hc326 => ?_) (fun hc326 => ?_)
          · replace hF := cond_t hc326 hF
            refine wp_seq ?_
            refine c_region ?_
            refine l_val E ok (y_fieldAddr fo_35_3 rfl) rfl rfl fun a E => ?_
            refine l_val E ok (y_load one_9 rfl (Holds.own 0 rfl rfl)) rfl rfl fun a E => ?_
            refine l_val E ok (y_seql rfl rfl) rfl rfl fun a E => ?_
            refine l_val E ok (y_assign rfl) rfl rfl fun a E => ?_
            refine wpList_nil ?_
            refine t_norm ?_
            refine wp_ret ?_
            refine b_ret ?_
            refine t_ret ?_
            have hret : calqueref34_Proper_R u m0 S (x8.S == ([])) a w := ⟨ok.drop.drop, E.d, ⟨rv_t E rfl, trivial⟩⟩
            obtain rfl := Option.some.inj hF
            exact fin _ _ hret
          replace hF := cond_f hc326 hF
          refine wp_seq ?_
          refine c_region ?_
          refine l_val E ok (y_eql rfl rfl) rfl rfl fun a E => ?_
          refine l_val E ok (y_assign rfl) rfl rfl fun a E => ?_
          refine wpList_nil ?_
          refine t_norm ?_
          refine c_if E rfl (fun hc327 => ?_) (fun hc327 => ?_)
          rotate_left
          · replace hF := cond_f hc327 hF
            refine wp_skip ?_
            refine b_norm ?_
            refine t_norm ?_
            refine wp_seq ?_
            refine c_region ?_
            refine l_val E ok (y_assign rfl) rfl rfl fun a E => ?_
            refine wpList_nil ?_
            refine t_norm ?_
            refine wp_ret ?_
            have hret : calqueref34_Proper_R u m0 S false a w := ⟨ok.drop.drop, E.d, ⟨rv_t E rfl, trivial⟩⟩
            obtain rfl := Option.some.inj hF
            exact fin _ _ hret
          replace hF := cond_t hc327 hF
          refine wp_seq ?_
          refine c_region ?_
          refine l_val E ok (y_fieldAddr fo_35_3 rfl) rfl rfl fun a E => ?_
          refine l_val E ok (y_load one_9 rfl (Holds.own 0 rfl rfl)) rfl rfl fun a E => ?_
          refine l_val E ok (y_seql rfl rfl) rfl rfl fun a E => ?_
          refine l_val E ok (y_move rfl) rfl rfl fun a E => ?_
          refine bsplit (x8.S == ([])) (fun hc328 => ?_) (fun hc328 => ?_)
          · replace hF := cond_t hc328 hF
            replace E := E.upd 188 hc328 rfl
            refine l_val E ok (y_move rfl) rfl rfl fun a E => ?_
            refine l_val E ok (y_fieldAddr fo_25_1 rfl) rfl rfl fun a E => ?_
            refine l_val E ok (y_load one_23 rfl (Holds.own 1 rfl rfl)) rfl rfl fun a E => ?_
            refine l_val E ok (y_lenL sl_23 h4 rfl) rfl rfl fun a E => ?_
            refine l_val E ok (y_subw rfl rfl) rfl rfl fun a E => ?_
            refine l_val E ok (y_eql rfl rfl) rfl rfl fun a E => ?_
            refine l_val E ok (y_pickT rfl rfl) rfl rfl fun a E => ?_
            refine l_val E ok (y_assign rfl) rfl rfl fun a E => ?_
            refine wpList_nil ?_
            refine t_norm ?_
            refine wp_ret ?_
            refine b_ret ?_
            refine t_ret ?_
            have hret : calqueref34_Proper_R u m0 S (i_1 == (IntKind.wrap .i64 ((c_0.Ins.length : Int) - 1))) a w := ⟨ok.drop.drop, E.d, ⟨rv_t E rfl, trivial⟩⟩
            obtain rfl := Option.some.inj hF
            exact fin _ _ hret
          replace hF := cond_f hc328 hF
          replace E := E.upd 188 hc328 rfl
          iterate 6 refine l_skip E rfl rfl fun a E => ?_
          refine l_val E ok (y_pickF rfl rfl) rfl rfl fun a E => ?_
          refine l_val E ok (y_assign rfl) rfl rfl fun a E => ?_
          refine wpList_nil ?_
          refine t_norm ?_
          refine wp_ret ?_
          refine b_ret ?_
          refine t_ret ?_
          have hret : calqueref34_Proper_R u m0 S false a w := ⟨ok.drop.drop, E.d, ⟨rv_t E rfl, trivial⟩⟩
          obtain rfl := Option.some.inj hF
          exact fin _ _ hret
      replace hF := cond_f hc248 hF
      replace E := E.upd 33 hc248 rfl
      refine l_val E ok (y_fieldAddr fo_35_0 rfl) rfl rfl fun a E => ?_
      refine l_val E ok (y_load one_3 rfl (Holds.own 0 rfl rfl)) rfl rfl fun a E => ?_
      refine l_val E ok (y_eql rfl rfl) rfl rfl fun a E => ?_
      refine l_val E ok (y_pickF rfl rfl) rfl rfl fun a E => ?_
      refine l_val E ok (y_assign rfl) rfl rfl fun a E => ?_
      refine wpList_nil ?_
      refine t_norm ?_
      refine wp_seq ?_
      refine wp_seq ?_
      obtain ⟨o329, hJ, hF⟩ := bnd hF
      refine c_mono (Q' := fun e a w => e = .normal ∧ Ok u m0 ([(b21, Obj.cells [(Value.int .i64 x8.Op), (Value.int .i64 x8.A), (Value.int .i64 x8.B), (Value.string (bs x8.S))].toArray 35 (0, 0))] :: [(b5, Obj.cells [c1, c3].toArray 25 (0, 0))] :: S) w ∧ Env 196 a [(1, (Value.int .i64 i_1)), (2, (Value.pointer (some ⟨b5, 0, none⟩))), (5, (Value.pointer (some ⟨b21, 0, none⟩))), (101, (Value.bool o329))]) ?_ ?_
      · as_aux_lemma =>
          replace hF := hJ
          clear hJ
          refine c_region ?_
          refine l_val E ok (y_move rfl) rfl rfl fun a E => ?_
          refine l_val E ok (y_move rfl) rfl rfl fun a E => ?_
          iterate 11 refine l_skip E rfl rfl fun a E => ?_
          refine l_val E ok (y_pickF rfl rfl) rfl rfl fun a E => ?_
          refine l_val E ok (y_move rfl) rfl rfl fun a E => ?_
          refine l_val E ok (y_move rfl) rfl rfl fun a E => ?_
          refine l_val E ok (y_move rfl) rfl rfl fun a E => ?_
          refine bsplit (x8.Op == 12) (fun hc330 => ?_) (fun hc330 => ?_)
          rotate_left
          · as_aux_lemma =>
              replace hF := cond_f hc330 hF
              replace E := E.upd 54 hc330 rfl
              iterate 22 refine l_skip E rfl rfl fun a E => ?_
              refine l_val E ok (y_pickF rfl rfl) rfl rfl fun a E => ?_
              refine l_val E ok (y_pickF rfl rfl) rfl rfl fun a E => ?_
              refine l_val E ok (y_move rfl) rfl rfl fun a E => ?_
              refine l_val E ok (y_move rfl) rfl rfl fun a E => ?_
              refine l_val E ok (y_not rfl) rfl rfl fun a E => ?_
              refine l_val E ok (y_move rfl) rfl rfl fun a E => ?_
              refine bsplit (!false) (fun hc353 => ?_) (fun hc353 => ?_)
              rotate_left
              · replace hF := cond_f hc353 hF
                replace E := E.upd 82 hc353 rfl
                iterate 2 refine l_skip E rfl rfl fun a E => ?_
                refine l_val E ok (y_pickF rfl rfl) rfl rfl fun a E => ?_
                refine l_val E ok (y_move rfl) rfl rfl fun a E => ?_
                iterate 3 refine l_skip E rfl rfl fun a E => ?_
                refine l_val E ok (y_pickF rfl rfl) rfl rfl fun a E => ?_
                refine l_val E ok (y_pickF rfl rfl) rfl rfl fun a E => ?_
                refine l_val E ok (y_move rfl) rfl rfl fun a E => ?_
                refine l_val E ok (y_fieldAddr fo_35_0 rfl) rfl rfl fun a E => ?_
                refine l_val E ok (y_load one_3 rfl (Holds.own 0 rfl rfl)) rfl rfl fun a E => ?_
                refine l_val E ok (y_neq rfl rfl) rfl rfl fun a E => ?_
                refine l_val E ok (y_move rfl) rfl rfl fun a E => ?_
                refine bsplit (x8.Op != 10) (fun hc358 => ?_) (fun hc358 => ?_)
                · replace hF := cond_t hc358 hF
                  replace E := E.upd 96 hc358 rfl
                  refine l_val E ok (y_fieldAddr fo_35_2 rfl) rfl rfl fun a E => ?_
                  refine l_val E ok (y_load one_3 rfl (Holds.own 0 rfl rfl)) rfl rfl fun a E => ?_
                  refine l_val E ok (y_neq rfl rfl) rfl rfl fun a E => ?_
                  refine l_val E ok (y_pickT rfl rfl) rfl rfl fun a E => ?_
                  refine l_val E ok (y_pickF rfl rfl) rfl rfl fun a E => ?_
                  refine wpList_nil ?_
                  obtain rfl := Option.some.inj hF
                  exact ⟨rfl, ⟨ok, E.keep [1, 2, 5, 101]⟩⟩
                replace hF := cond_f hc358 hF
                replace E := E.upd 96 hc358 rfl
                iterate 3 refine l_skip E rfl rfl fun a E => ?_
                refine l_val E ok (y_pickF rfl rfl) rfl rfl fun a E => ?_
                refine l_val E ok (y_pickF rfl rfl) rfl rfl fun a E => ?_
                refine wpList_nil ?_
                obtain rfl := Option.some.inj hF
                exact ⟨rfl, ⟨ok, E.keep [1, 2, 5, 101]⟩⟩
              replace hF := cond_t hc353 hF
              replace E := E.upd 82 hc353 rfl
              refine l_val E ok (y_move rfl) rfl rfl fun a E => ?_
              refine l_val E ok (y_not rfl) rfl rfl fun a E => ?_
              refine l_val E ok (y_pickT rfl rfl) rfl rfl fun a E => ?_
              refine l_val E ok (y_move rfl) rfl rfl fun a E => ?_
              refine bsplit (!(x8.Op == 12)) (fun hc354 => ?_) (fun hc354 => ?_)
              rotate_left
              · replace hF := cond_f hc354 hF
                replace E := E.upd 86 hc354 rfl
                iterate 3 refine l_skip E rfl rfl fun a E => ?_
                refine l_val E ok (y_pickF rfl rfl) rfl rfl fun a E => ?_
                refine l_val E ok (y_pickF rfl rfl) rfl rfl fun a E => ?_
                refine l_val E ok (y_move rfl) rfl rfl fun a E => ?_
                refine l_val E ok (y_fieldAddr fo_35_0 rfl) rfl rfl fun a E => ?_
                refine l_val E ok (y_load one_3 rfl (Holds.own 0 rfl rfl)) rfl rfl fun a E => ?_
                refine l_val E ok (y_neq rfl rfl) rfl rfl fun a E => ?_
                refine l_val E ok (y_move rfl) rfl rfl fun a E => ?_
                refine bsplit (x8.Op != 10) (fun hc357 => ?_) (fun hc357 => ?_)
                · replace hF := cond_t hc357 hF
                  replace E := E.upd 96 hc357 rfl
                  refine l_val E ok (y_fieldAddr fo_35_2 rfl) rfl rfl fun a E => ?_
                  refine l_val E ok (y_load one_3 rfl (Holds.own 0 rfl rfl)) rfl rfl fun a E => ?_
                  refine l_val E ok (y_neq rfl rfl) rfl rfl fun a E => ?_
                  refine l_val E ok (y_pickT rfl rfl) rfl rfl fun a E => ?_
                  refine l_val E ok (y_pickF rfl rfl) rfl rfl fun a E => ?_
                  refine wpList_nil ?_
                  obtain rfl := Option.some.inj hF
                  exact ⟨rfl, ⟨ok, E.keep [1, 2, 5, 101]⟩⟩
                replace hF := cond_f hc357 hF
                replace E := E.upd 96 hc357 rfl
                iterate 3 refine l_skip E rfl rfl fun a E => ?_
                refine l_val E ok (y_pickF rfl rfl) rfl rfl fun a E => ?_
                refine l_val E ok (y_pickF rfl rfl) rfl rfl fun a E => ?_
                refine wpList_nil ?_
                obtain rfl := Option.some.inj hF
                exact ⟨rfl, ⟨ok, E.keep [1, 2, 5, 101]⟩⟩
              replace hF := cond_t hc354 hF
              replace E := E.upd 86 hc354 rfl
              refine l_val E ok (y_fieldAddr fo_35_1 rfl) rfl rfl fun a E => ?_
              refine l_val E ok (y_load one_3 rfl (Holds.own 0 rfl rfl)) rfl rfl fun a E => ?_
              refine l_val E ok (y_neq rfl rfl) rfl rfl fun a E => ?_
              refine l_val E ok (y_pickT rfl rfl) rfl rfl fun a E => ?_
              refine l_val E ok (y_pickF rfl rfl) rfl rfl fun a E => ?_
              refine l_val E ok (y_move rfl) rfl rfl fun a E => ?_
              refine bsplit (x8.A != 0) (fun hc355 => ?_) (fun hc355 => ?_)
              · replace hF := cond_t hc355 hF
                replace E := E.upd 92 hc355 rfl
                iterate 8 refine l_skip E rfl rfl fun a E => ?_
                refine l_val E ok (y_pickT rfl rfl) rfl rfl fun a E => ?_
                refine wpList_nil ?_
                obtain rfl := Option.some.inj hF
                exact ⟨rfl, ⟨ok, E.keep [1, 2, 5, 101]⟩⟩
              replace hF := cond_f hc355 hF
              replace E := E.upd 92 hc355 rfl
              refine l_val E ok (y_fieldAddr fo_35_0 rfl) rfl rfl fun a E => ?_
              refine l_val E ok (y_load one_3 rfl (Holds.own 0 rfl rfl)) rfl rfl fun a E => ?_
              refine l_val E ok (y_neq rfl rfl) rfl rfl fun a E => ?_
              refine l_val E ok (y_move rfl) rfl rfl fun a E => ?_
              refine bsplit (x8.Op != 10) (fun hc356 => ?_) (fun hc356 => ?_)
              · replace hF := cond_t hc356 hF
                replace E := E.upd 96 hc356 rfl
                refine l_val E ok (y_fieldAddr fo_35_2 rfl) rfl rfl fun a E => ?_
                refine l_val E ok (y_load one_3 rfl (Holds.own 0 rfl rfl)) rfl rfl fun a E => ?_
                refine l_val E ok (y_neq rfl rfl) rfl rfl fun a E => ?_
                refine l_val E ok (y_pickT rfl rfl) rfl rfl fun a E => ?_
                refine l_val E ok (y_pickF rfl rfl) rfl rfl fun a E => ?_
                refine wpList_nil ?_
                obtain rfl := Option.some.inj hF
                exact ⟨rfl, ⟨ok, E.keep [1, 2, 5, 101]⟩⟩
              replace hF := cond_f hc356 hF
              replace E := E.upd 96 hc356 rfl
              iterate 3 refine l_skip E rfl rfl fun a E => ?_
              refine l_val E ok (y_pickF rfl rfl) rfl rfl fun a E => ?_
              refine l_val E ok (y_pickF rfl rfl) rfl rfl fun a E => ?_
              refine wpList_nil ?_
              obtain rfl := Option.some.inj hF
              exact ⟨rfl, ⟨ok, E.keep [1, 2, 5, 101]⟩⟩
          replace hF := cond_t hc330 hF
          replace E := E.upd 54 hc330 rfl
          refine l_val E ok (y_fieldAddr fo_35_1 rfl) rfl rfl fun a E => ?_
          refine l_val E ok (y_load one_3 rfl (Holds.own 0 rfl rfl)) rfl rfl fun a E => ?_
          refine l_val E ok (y_move rfl) rfl rfl fun a E => ?_
          refine l_val E ok (y_leq rfl rfl) rfl rfl fun a E => ?_
          refine l_val E ok (y_move rfl) rfl rfl fun a E => ?_
          refine bsplit (decide (x8.A ≤ i_1)) (fun hc331 => ?_) (fun hc331 => ?_)
          · replace hF := cond_t hc331 hF
            replace E := E.upd 59 hc331 rfl
            iterate 6 refine l_skip E rfl rfl fun a E => ?_
            refine l_val E ok (y_pickT rfl rfl) rfl rfl fun a E => ?_
            refine l_val E ok (y_move rfl) rfl rfl fun a E => ?_
            iterate 8 refine l_skip E rfl rfl fun a E => ?_
            refine l_val E ok (y_pickT rfl rfl) rfl rfl fun a E => ?_
            refine l_val E ok (y_pickT rfl rfl) rfl rfl fun a E => ?_
            refine l_val E ok (y_pickF rfl rfl) rfl rfl fun a E => ?_
            refine l_val E ok (y_move rfl) rfl rfl fun a E => ?_
            iterate 11 refine l_skip E rfl rfl fun a E => ?_
            refine l_val E ok (y_pickT rfl rfl) rfl rfl fun a E => ?_
            refine l_val E ok (y_move rfl) rfl rfl fun a E => ?_
            iterate 8 refine l_skip E rfl rfl fun a E => ?_
            refine l_val E ok (y_pickT rfl rfl) rfl rfl fun a E => ?_
            refine wpList_nil ?_
            obtain rfl := Option.some.inj hF
            exact ⟨rfl, ⟨ok, E.keep [1, 2, 5, 101]⟩⟩
          replace hF := cond_f hc331 hF
          replace E := E.upd 59 hc331 rfl
          refine l_val E ok (y_fieldAddr fo_35_1 rfl) rfl rfl fun a E => ?_
          refine l_val E ok (y_load one_3 rfl (Holds.own 0 rfl rfl)) rfl rfl fun a E => ?_
          refine l_val E ok (y_fieldAddr fo_25_1 rfl) rfl rfl fun a E => ?_
          refine l_val E ok (y_load one_23 rfl (Holds.own 1 rfl rfl)) rfl rfl fun a E => ?_
          refine l_val E ok (y_lenL sl_23 h4 rfl) rfl rfl fun a E => ?_
          refine l_val E ok (y_geq rfl rfl) rfl rfl fun a E => ?_
          refine l_val E ok (y_pickF rfl rfl) rfl rfl fun a E => ?_
          refine l_val E ok (y_move rfl) rfl rfl fun a E => ?_
          refine bsplit (decide (x8.A ≥ (c_0.Ins.length : Int))) (fun hc332 => ?_) (fun hc332 => ?_)
          · replace hF := cond_t hc332 hF
            replace E := E.upd 67 hc332 rfl
            iterate 8 refine l_skip E rfl rfl fun a E => ?_
            refine l_val E ok (y_pickT rfl rfl) rfl rfl fun a E => ?_
            refine l_val E ok (y_pickT rfl rfl) rfl rfl fun a E => ?_
            refine l_val E ok (y_pickF rfl rfl) rfl rfl fun a E => ?_
            refine l_val E ok (y_move rfl) rfl rfl fun a E => ?_
            iterate 11 refine l_skip E rfl rfl fun a E => ?_
            refine l_val E ok (y_pickT rfl rfl) rfl rfl fun a E => ?_
            refine l_val E ok (y_move rfl) rfl rfl fun a E => ?_
            iterate 8 refine l_skip E rfl rfl fun a E => ?_
            refine l_val E ok (y_pickT rfl rfl) rfl rfl fun a E => ?_
            refine wpList_nil ?_
            obtain rfl := Option.some.inj hF
            exact ⟨rfl, ⟨ok, E.keep [1, 2, 5, 101]⟩⟩
          replace hF := cond_f hc332 hF
          replace E := E.upd 67 hc332 rfl
          refine l_val E ok (y_fieldAddr fo_25_1 rfl) rfl rfl fun a E => ?_
          refine l_val E ok (y_load one_23 rfl (Holds.own 1 rfl rfl)) rfl rfl fun a E => ?_
          refine l_val E ok (y_fieldAddr fo_35_1 rfl) rfl rfl fun a E => ?_
          refine l_val E ok (y_load one_3 rfl (Holds.own 0 rfl rfl)) rfl rfl fun a E => ?_
          obtain ⟨x333, e334, hF⟩ := bnd hF
          obtain ⟨b335, o336, es337, hl338, rr339, at340, yy341⟩ := idxAt sl_23 h4 e334 (P := Tryd.prog) (X := .tmp 69) (I := .tmp 71) (kd := .i64) (ev_of E rfl) (ev_of E rfl)
          obtain ⟨rfl, r342, r343, r344, l345⟩ := rr339
          refine l_val E ok (yy341 _ _) rfl rfl fun a E => ?_
          refine l_val E ok (y_fieldAddr fo_35_0 rfl) rfl rfl fun a E => ?_
          refine l_val E ok (y_load one_3 rfl (Holds.ro (At.sub 0 1 at340))) rfl rfl fun a E => ?_
          refine l_val E ok (y_eql rfl rfl) rfl rfl fun a E => ?_
          refine l_val E ok (y_pickF rfl rfl) rfl rfl fun a E => ?_
          refine l_val E ok (y_pickT rfl rfl) rfl rfl fun a E => ?_
          refine l_val E ok (y_pickF rfl rfl) rfl rfl fun a E => ?_
          refine l_val E ok (y_move rfl) rfl rfl fun a E => ?_
          refine bsplit (x333.Op == 11) (fun hc346 => ?_) (fun hc346 => ?_)
          · replace hF := cond_t hc346 hF
            replace E := E.upd 79 hc346 rfl
            iterate 11 refine l_skip E rfl rfl fun a E => ?_
            refine l_val E ok (y_pickT rfl rfl) rfl rfl fun a E => ?_
            refine l_val E ok (y_move rfl) rfl rfl fun a E => ?_
            iterate 8 refine l_skip E rfl rfl fun a E => ?_
            refine l_val E ok (y_pickT rfl rfl) rfl rfl fun a E => ?_
            refine wpList_nil ?_
            obtain rfl := Option.some.inj hF
            exact ⟨rfl, ⟨ok, E.keep [1, 2, 5, 101]⟩⟩
          replace hF := cond_f hc346 hF
          replace E := E.upd 79 hc346 rfl
          refine l_val E ok (y_move rfl) rfl rfl fun a E => ?_
          refine l_val E ok (y_not rfl) rfl rfl fun a E => ?_
          refine l_val E ok (y_move rfl) rfl rfl fun a E => ?_
          refine bsplit (!false) (fun hc347 => ?_) (fun hc347 => ?_)
          rotate_left
          · replace hF := cond_f hc347 hF
            replace E := E.upd 82 hc347 rfl
            iterate 2 refine l_skip E rfl rfl fun a E => ?_
            refine l_val E ok (y_pickF rfl rfl) rfl rfl fun a E => ?_
            refine l_val E ok (y_move rfl) rfl rfl fun a E => ?_
            iterate 3 refine l_skip E rfl rfl fun a E => ?_
            refine l_val E ok (y_pickF rfl rfl) rfl rfl fun a E => ?_
            refine l_val E ok (y_pickF rfl rfl) rfl rfl fun a E => ?_
            refine l_val E ok (y_move rfl) rfl rfl fun a E => ?_
            refine l_val E ok (y_fieldAddr fo_35_0 rfl) rfl rfl fun a E => ?_
            refine l_val E ok (y_load one_3 rfl (Holds.own 0 rfl rfl)) rfl rfl fun a E => ?_
            refine l_val E ok (y_neq rfl rfl) rfl rfl fun a E => ?_
            refine l_val E ok (y_move rfl) rfl rfl fun a E => ?_
            refine bsplit (x8.Op != 10) (fun hc352 => ?_) (fun hc352 => ?_)
            · replace hF := cond_t hc352 hF
              replace E := E.upd 96 hc352 rfl
              refine l_val E ok (y_fieldAddr fo_35_2 rfl) rfl rfl fun a E => ?_
              refine l_val E ok (y_load one_3 rfl (Holds.own 0 rfl rfl)) rfl rfl fun a E => ?_
              refine l_val E ok (y_neq rfl rfl) rfl rfl fun a E => ?_
              refine l_val E ok (y_pickT rfl rfl) rfl rfl fun a E => ?_
              refine l_val E ok (y_pickF rfl rfl) rfl rfl fun a E => ?_
              refine wpList_nil ?_
              obtain rfl := Option.some.inj hF
              exact ⟨rfl, ⟨ok, E.keep [1, 2, 5, 101]⟩⟩
            replace hF := cond_f hc352 hF
            replace E := E.upd 96 hc352 rfl
            iterate 3 refine l_skip E rfl rfl fun a E => ?_
            refine l_val E ok (y_pickF rfl rfl) rfl rfl fun a E => ?_
            refine l_val E ok (y_pickF rfl rfl) rfl rfl fun a E => ?_
            refine wpList_nil ?_
            obtain rfl := Option.some.inj hF
            exact ⟨rfl, ⟨ok, E.keep [1, 2, 5, 101]⟩⟩
          replace hF := cond_t hc347 hF
          replace E := E.upd 82 hc347 rfl
          refine l_val E ok (y_move rfl) rfl rfl fun a E => ?_
          refine l_val E ok (y_not rfl) rfl rfl fun a E => ?_
          refine l_val E ok (y_pickT rfl rfl) rfl rfl fun a E => ?_
          refine l_val E ok (y_move rfl) rfl rfl fun a E => ?_
          refine bsplit (!(x8.Op == 12)) (fun hc348 => ?_) (fun hc348 => ?_)
          rotate_left
          · replace hF := cond_f hc348 hF
            replace E := E.upd 86 hc348 rfl
            iterate 3 refine l_skip E rfl rfl fun a E => ?_
            refine l_val E ok (y_pickF rfl rfl) rfl rfl fun a E => ?_
            refine l_val E ok (y_pickF rfl rfl) rfl rfl fun a E => ?_
            refine l_val E ok (y_move rfl) rfl rfl fun a E => ?_
            refine l_val E ok (y_fieldAddr fo_35_0 rfl) rfl rfl fun a E => ?_
            refine l_val E ok (y_load one_3 rfl (Holds.own 0 rfl rfl)) rfl rfl fun a E => ?_
            refine l_val E ok (y_neq rfl rfl) rfl rfl fun a E => ?_
            refine l_val E ok (y_move rfl) rfl rfl fun a E => ?_
            refine bsplit (x8.Op != 10) (fun hc351 => ?_) (fun hc351 => ?_)
            · replace hF := cond_t hc351 hF
              replace E := E.upd 96 hc351 rfl
              refine l_val E ok (y_fieldAddr fo_35_2 rfl) rfl rfl fun a E => ?_
              refine l_val E ok (y_load one_3 rfl (Holds.own 0 rfl rfl)) rfl rfl fun a E => ?_
              refine l_val E ok (y_neq rfl rfl) rfl rfl fun a E => ?_
              refine l_val E ok (y_pickT rfl rfl) rfl rfl fun a E => ?_
              refine l_val E ok (y_pickF rfl rfl) rfl rfl fun a E => ?_
              refine wpList_nil ?_
              obtain rfl := Option.some.inj hF
              exact ⟨rfl, ⟨ok, E.keep [1, 2, 5, 101]⟩⟩
            replace hF := cond_f hc351 hF
            replace E := E.upd 96 hc351 rfl
            iterate 3 refine l_skip E rfl rfl fun a E => ?_
            refine l_val E ok (y_pickF rfl rfl) rfl rfl fun a E => ?_
            refine l_val E ok (y_pickF rfl rfl) rfl rfl fun a E => ?_
            refine wpList_nil ?_
            obtain rfl := Option.some.inj hF
            exact ⟨rfl, ⟨ok, E.keep [1, 2, 5, 101]⟩⟩
          replace hF := cond_t hc348 hF
          replace E := E.upd 86 hc348 rfl
          refine l_val E ok (y_fieldAddr fo_35_1 rfl) rfl rfl fun a E => ?_
          refine l_val E ok (y_load one_3 rfl (Holds.own 0 rfl rfl)) rfl rfl fun a E => ?_
          refine l_val E ok (y_neq rfl rfl) rfl rfl fun a E => ?_
          refine l_val E ok (y_pickT rfl rfl) rfl rfl fun a E => ?_
          refine l_val E ok (y_pickF rfl rfl) rfl rfl fun a E => ?_
          refine l_val E ok (y_move rfl) rfl rfl fun a E => ?_
          refine bsplit (x8.A != 0) (fun hc349 => ?_) (fun hc349 => ?_)
          · replace hF := cond_t hc349 hF
            replace E := E.upd 92 hc349 rfl
            iterate 8 refine l_skip E rfl rfl fun a E => ?_
            refine l_val E ok (y_pickT rfl rfl) rfl rfl fun a E => ?_
            refine wpList_nil ?_
            obtain rfl := Option.some.inj hF
            exact ⟨rfl, ⟨ok, E.keep [1, 2, 5, 101]⟩⟩
          replace hF := cond_f hc349 hF
          replace E := E.upd 92 hc349 rfl
          refine l_val E ok (y_fieldAddr fo_35_0 rfl) rfl rfl fun a E => ?_
          refine l_val E ok (y_load one_3 rfl (Holds.own 0 rfl rfl)) rfl rfl fun a E => ?_
          refine l_val E ok (y_neq rfl rfl) rfl rfl fun a E => ?_
          refine l_val E ok (y_move rfl) rfl rfl fun a E => ?_
          refine bsplit (x8.Op != 10) (fun hc350 => ?_) (fun hc350 => ?_)
          · replace hF := cond_t hc350 hF
            replace E := E.upd 96 hc350 rfl
            refine l_val E ok (y_fieldAddr fo_35_2 rfl) rfl rfl fun a E => ?_
            refine l_val E ok (y_load one_3 rfl (Holds.own 0 rfl rfl)) rfl rfl fun a E => ?_
            refine l_val E ok (y_neq rfl rfl) rfl rfl fun a E => ?_
            refine l_val E ok (y_pickT rfl rfl) rfl rfl fun a E => ?_
            refine l_val E ok (y_pickF rfl rfl) rfl rfl fun a E => ?_
            refine wpList_nil ?_
            obtain rfl := Option.some.inj hF
            exact ⟨rfl, ⟨ok, E.keep [1, 2, 5, 101]⟩⟩
          replace hF := cond_f hc350 hF
          replace E := E.upd 96 hc350 rfl
          iterate 3 refine l_skip E rfl rfl fun a E => ?_
          refine l_val E ok (y_pickF rfl rfl) rfl rfl fun a E => ?_
          refine l_val E ok (y_pickF rfl rfl) rfl rfl fun a E => ?_
          refine wpList_nil ?_
          obtain rfl := Option.some.inj hF
          exact ⟨rfl, ⟨ok, E.keep [1, 2, 5, 101]⟩⟩
      clear hJ
      intro e a w hO
      obtain ⟨rfl, ok, E⟩ := hO
      refine t_norm ?_
      refine c_if E rfl (fun hc359 => ?_) (fun hc359 => ?_)
      · replace hF := cond_t hc359 hF
        refine wp_seq ?_
        refine c_region ?_
        refine l_val E ok (y_assign rfl) rfl rfl fun a E => ?_
        refine wpList_nil ?_
        refine t_norm ?_
        refine wp_ret ?_
        refine t_ret ?_
        have hret : calqueref34_Proper_R u m0 S false a w := ⟨ok.drop.drop, E.d, ⟨rv_t E rfl, trivial⟩⟩
        obtain rfl := Option.some.inj hF
        exact fin _ _ hret
      replace hF := cond_f hc359 hF
      refine wp_skip ?_
      refine t_norm ?_
      refine wp_seq ?_
      refine wp_seq ?_
      refine c_region ?_
      refine l_val E ok (y_fieldAddr fo_35_0 rfl) rfl rfl fun a E => ?_
      refine l_val E ok (y_load one_3 rfl (Holds.own 0 rfl rfl)) rfl rfl fun a E => ?_
      refine wpList_nil ?_
      refine t_norm ?_
      refine wp_block ?_
      refine wp_seq ?_
      refine c_region ?_
      refine l_val E ok (y_eql rfl rfl) rfl rfl fun a E => ?_
      refine l_val E ok (y_assign rfl) rfl rfl fun a E => ?_
      refine wpList_nil ?_
      refine t_norm ?_
      refine c_if E rfl (fun hc360 => ?_) (fun hc360 => ?_)
      · replace hF := cond_t hc360 hF
        refine wp_seq ?_
        refine c_region ?_
        refine l_val E ok (y_fieldAddr fo_35_3 rfl) rfl rfl fun a E => ?_
        refine l_val E ok (y_load one_9 rfl (Holds.own 0 rfl rfl)) rfl rfl fun a E => ?_
        refine l_val E ok (y_sneq rfl rfl) rfl rfl fun a E => ?_
        refine l_val E ok (y_assign rfl) rfl rfl fun a E => ?_
        refine wpList_nil ?_
        refine t_norm ?_
        refine wp_ret ?_
        refine b_ret ?_
        refine t_ret ?_
        have hret : calqueref34_Proper_R u m0 S (x8.S != ([])) a w := ⟨ok.drop.drop, E.d, ⟨rv_t E rfl, trivial⟩⟩
        obtain rfl := Option.some.inj hF
        exact fin _ _ hret
      replace hF := cond_f hc360 hF
      refine wp_seq ?_
      refine wp_seq ?_
      refine c_region ?_
      refine l_val E ok (y_eql rfl rfl) rfl rfl fun a E => ?_
      refine l_val E ok (y_assign rfl) rfl rfl fun a E => ?_
      refine wpList_nil ?_
      refine t_norm ?_
      obtain ⟨o361, hJ, hF⟩ := bnd hF
      refine c_mono (Q' := fun e a w => e = .normal ∧ Ok u m0 ([(b21, Obj.cells [(Value.int .i64 x8.Op), (Value.int .i64 x8.A), (Value.int .i64 x8.B), (Value.string (bs x8.S))].toArray 35 (0, 0))] :: [(b5, Obj.cells [c1, c3].toArray 25 (0, 0))] :: S) w ∧ Env 196 a [(1, (Value.int .i64 i_1)), (2, (Value.pointer (some ⟨b5, 0, none⟩))), (5, (Value.pointer (some ⟨b21, 0, none⟩))), (103, (Value.int .i64 x8.Op)), (109, (Value.bool o361))]) ?_ ?_
      · replace hF := hJ
        clear hJ
        refine c_if E rfl (fun hc362 => ?_) (fun hc362 => ?_)
        · replace hF := cond_t hc362 hF
          refine wp_skip ?_
          obtain rfl := Option.some.inj hF
          exact ⟨rfl, ⟨ok, E.keep [1, 2, 5, 103, 109]⟩⟩
        replace hF := cond_f hc362 hF
        refine wp_seq ?_
        refine c_region ?_
        refine l_val E ok (y_eql rfl rfl) rfl rfl fun a E => ?_
        refine l_val E ok (y_assign rfl) rfl rfl fun a E => ?_
        refine wpList_nil ?_
        refine t_norm ?_
        refine c_if E rfl (fun hc363 => ?_) (fun hc363 => ?_)
        · replace hF := cond_t hc363 hF
          refine wp_skip ?_
          obtain rfl := Option.some.inj hF
          exact ⟨rfl, ⟨ok, E.keep [1, 2, 5, 103, 109]⟩⟩
        replace hF := cond_f hc363 hF
        refine wp_seq ?_
        refine c_region ?_
        refine l_val E ok (y_eql rfl rfl) rfl rfl fun a E => ?_
        refine l_val E ok (y_assign rfl) rfl rfl fun a E => ?_
        refine wpList_nil ?_
        refine t_norm ?_
        refine c_if E rfl (fun hc364 => ?_) (fun hc364 => ?_)
        · replace hF := cond_t hc364 hF
          refine wp_skip ?_
          obtain rfl := Option.some.inj hF
          exact ⟨rfl, ⟨ok, E.keep [1, 2, 5, 103, 109]⟩⟩
        replace hF := cond_f hc364 hF
        refine wp_seq ?_
        refine c_region ?_
        refine l_val E ok (y_eql rfl rfl) rfl rfl fun a E => ?_
        refine l_val E ok (y_assign rfl) rfl rfl fun a E => ?_
        refine wpList_nil ?_
        refine t_norm ?_
        refine c_if E rfl (fun hc365 => ?_) (fun hc365 => ?_)
        · replace hF := cond_t hc365 hF
          refine wp_skip ?_
          obtain rfl := Option.some.inj hF
          exact ⟨rfl, ⟨ok, E.keep [1, 2, 5, 103, 109]⟩⟩
        replace hF := cond_f hc365 hF
        refine c_region ?_
        refine l_val E ok (y_eql rfl rfl) rfl rfl fun a E => ?_
        refine l_val E ok (y_assign rfl) rfl rfl fun a E => ?_
        refine wpList_nil ?_
        obtain rfl := Option.some.inj hF
        exact ⟨rfl, ⟨ok, E.keep [1, 2, 5, 103, 109]⟩⟩
      clear hJ
      intro e a w hO
      obtain ⟨rfl, ok, E⟩ := hO
      refine t_norm ?_
      refine c_if E rfl (fun hc366 => ?_) (fun hc366 => ?_)
      · replace hF := cond_t hc366 hF
        refine wp_seq ?_
        refine c_region ?_
        refine l_val E ok (y_fieldAddr fo_35_3 rfl) rfl rfl fun a E => ?_
        refine l_val E ok (y_load one_9 rfl (Holds.own 0 rfl rfl)) rfl rfl fun a E => ?_
        obtain ⟨r367, e368, hF⟩ := bnd hF
        refine l_call E go_23 rfl (calqueref25_Name_w N x8.S l20 e368 hG ok) rfl rfl ?_
        rintro _ w ⟨rfl, ok⟩
        refine ⟨_, rfl, fun a E => ?_⟩
        refine l_val E ok (y_assign rfl) rfl rfl fun a E => ?_
        refine wpList_nil ?_
        refine t_norm ?_
        refine wp_ret ?_
        refine b_ret ?_
        refine t_ret ?_
        have hret : calqueref34_Proper_R u m0 S r367 a w := ⟨ok.drop.drop, E.d, ⟨rv_t E rfl, trivial⟩⟩
        obtain rfl := Option.some.inj hF
        exact fin _ _ hret
      replace hF := cond_f hc366 hF
      refine wp_seq ?_
      refine c_region ?_
      refine l_val E ok (y_eql rfl rfl) rfl rfl fun a E => ?_
      refine l_val E ok (y_assign rfl) rfl rfl fun a E => ?_
      refine wpList_nil ?_
      refine t_norm ?_
      refine c_if E rfl (fun hc369 => ?_) (fun hc369 => ?_)
      · replace hF := cond_t hc369 hF
        refine wp_seq ?_
        refine c_region ?_
        refine l_val E ok (y_fieldAddr fo_35_3 rfl) rfl rfl fun a E => ?_
        refine l_val E ok (y_load one_9 rfl (Holds.own 0 rfl rfl)) rfl rfl fun a E => ?_
        refine l_val E ok (y_seql rfl rfl) rfl rfl fun a E => ?_
        refine l_val E ok (y_move rfl) rfl rfl fun a E => ?_
        refine bsplit (x8.S == ([])) (fun hc370 => ?_) (fun hc370 => ?_)
        · replace hF := cond_t hc370 hF
          replace E := E.upd 123 hc370 rfl
          iterate 3 refine l_skip E rfl rfl fun a E => ?_
          refine l_val E ok (y_pickT rfl rfl) rfl rfl fun a E => ?_
          refine l_val E ok (y_move rfl) rfl rfl fun a E => ?_
          iterate 3 refine l_skip E rfl rfl fun a E => ?_
          refine l_val E ok (y_pickT rfl rfl) rfl rfl fun a E => ?_
          refine l_val E ok (y_assign rfl) rfl rfl fun a E => ?_
          refine wpList_nil ?_
          refine t_norm ?_
          refine wp_ret ?_
          refine b_ret ?_
          refine t_ret ?_
          have hret : calqueref34_Proper_R u m0 S true a w := ⟨ok.drop.drop, E.d, ⟨rv_t E rfl, trivial⟩⟩
          obtain rfl := Option.some.inj hF
          exact fin _ _ hret
        replace hF := cond_f hc370 hF
        replace E := E.upd 123 hc370 rfl
        refine l_val E ok (y_fieldAddr fo_35_3 rfl) rfl rfl fun a E => ?_
        refine l_val E ok (y_load one_9 rfl (Holds.own 0 rfl rfl)) rfl rfl fun a E => ?_
        refine l_val E ok (y_seql rfl rfl) rfl rfl fun a E => ?_
        refine l_val E ok (y_pickF rfl rfl) rfl rfl fun a E => ?_
        refine l_val E ok (y_move rfl) rfl rfl fun a E => ?_
        refine bsplit (x8.S == ([105, 110, 116, 101, 103, 101, 114])) (fun hc371 => ?_) (fun hc371 => ?_)
        · replace hF := cond_t hc371 hF
          replace E := E.upd 128 hc371 rfl
          iterate 3 refine l_skip E rfl rfl fun a E => ?_
          refine l_val E ok (y_pickT rfl rfl) rfl rfl fun a E => ?_
          refine l_val E ok (y_assign rfl) rfl rfl fun a E => ?_
          refine wpList_nil ?_
          refine t_norm ?_
          refine wp_ret ?_
          refine b_ret ?_
          refine t_ret ?_
          have hret : calqueref34_Proper_R u m0 S true a w := ⟨ok.drop.drop, E.d, ⟨rv_t E rfl, trivial⟩⟩
          obtain rfl := Option.some.inj hF
          exact fin _ _ hret
        replace hF := cond_f hc371 hF
        replace E := E.upd 128 hc371 rfl
        refine l_val E ok (y_fieldAddr fo_35_3 rfl) rfl rfl fun a E => ?_
        refine l_val E ok (y_load one_9 rfl (Holds.own 0 rfl rfl)) rfl rfl fun a E => ?_
        refine l_val E ok (y_seql rfl rfl) rfl rfl fun a E => ?_
        refine l_val E ok (y_pickF rfl rfl) rfl rfl fun a E => ?_
        refine l_val E ok (y_assign rfl) rfl rfl fun a E => ?_
        refine wpList_nil ?_
        refine t_norm ?_
        refine wp_ret ?_
        refine b_ret ?_
        refine t_ret ?_
        have hret : calqueref34_Proper_R u m0 S (x8.S == ([112, 101, 114, 99, 101, 110, 116])) a w := ⟨ok.drop.drop, E.d, ⟨rv_t E rfl, trivial⟩⟩
        obtain rfl := Option.some.inj hF
        exact fin _ _ hret
      replace hF := cond_f hc369 hF
      refine wp_seq ?_
      refine c_region ?_
      refine l_val E ok (y_eql rfl rfl) rfl rfl fun a E => ?_
      refine l_val E ok (y_assign rfl) rfl rfl fun a E => ?_
      refine wpList_nil ?_
      refine t_norm ?_
      refine c_if E rfl (fun hc372 => ?_) (fun hc372 => ?_)
      · replace hF := cond_t hc372 hF
        refine wp_seq ?_
        refine c_region ?_
        refine l_val E ok (y_fieldAddr fo_35_3 rfl) rfl rfl fun a E => ?_
        refine l_val E ok (y_load one_9 rfl (Holds.own 0 rfl rfl)) rfl rfl fun a E => ?_
        obtain ⟨r373, e374, hF⟩ := bnd hF
        refine l_call E go_24 rfl (calqueref26_Skeleton_w N x8.S l20 e374 hG ok) rfl rfl ?_
        rintro _ w ⟨rfl, ok⟩
        refine ⟨_, rfl, fun a E => ?_⟩
        refine l_val E ok (y_assign rfl) rfl rfl fun a E => ?_
        refine wpList_nil ?_
        refine t_norm ?_
        refine wp_ret ?_
        refine b_ret ?_
        refine t_ret ?_
        have hret : calqueref34_Proper_R u m0 S r373 a w := ⟨ok.drop.drop, E.d, ⟨rv_t E rfl, trivial⟩⟩
        obtain rfl := Option.some.inj hF
        exact fin _ _ hret
      replace hF := cond_f hc372 hF
      refine wp_seq ?_
      refine c_region ?_
      refine l_val E ok (y_eql rfl rfl) rfl rfl fun a E => ?_
      refine l_val E ok (y_assign rfl) rfl rfl fun a E => ?_
      refine wpList_nil ?_
      refine t_norm ?_
      refine c_if E rfl (fun hc375 => ?_) (fun hc375 => ?_)
      · replace hF := cond_t hc375 hF
        refine wp_seq ?_
        refine c_region ?_
        refine l_val E ok (y_fieldAddr fo_35_3 rfl) rfl rfl fun a E => ?_
        refine l_val E ok (y_load one_9 rfl (Holds.own 0 rfl rfl)) rfl rfl fun a E => ?_
        refine l_val E ok (y_seql rfl rfl) rfl rfl fun a E => ?_
        refine l_val E ok (y_move rfl) rfl rfl fun a E => ?_
        refine bsplit (x8.S == ([])) (fun hc376 => ?_) (fun hc376 => ?_)
        rotate_left
        · replace hF := cond_f hc376 hF
          replace E := E.upd 143 hc376 rfl
          iterate 3 refine l_skip E rfl rfl fun a E => ?_
          refine l_val E ok (y_pickF rfl rfl) rfl rfl fun a E => ?_
          refine l_val E ok (y_move rfl) rfl rfl fun a E => ?_
          iterate 3 refine l_skip E rfl rfl fun a E => ?_
          refine l_val E ok (y_pickF rfl rfl) rfl rfl fun a E => ?_
          refine l_val E ok (y_assign rfl) rfl rfl fun a E => ?_
          refine wpList_nil ?_
          refine t_norm ?_
          refine wp_ret ?_
          refine b_ret ?_
          refine t_ret ?_
          have hret : calqueref34_Proper_R u m0 S false a w := ⟨ok.drop.drop, E.d, ⟨rv_t E rfl, trivial⟩⟩
          obtain rfl := Option.some.inj hF
          exact fin _ _ hret
        replace hF := cond_t hc376 hF
        replace E := E.upd 143 hc376 rfl
        refine l_val E ok (y_fieldAddr fo_35_2 rfl) rfl rfl fun a E => ?_
        refine l_val E ok (y_load one_3 rfl (Holds.own 0 rfl rfl)) rfl rfl fun a E => ?_
        obtain ⟨r377, e378, hF⟩ := bnd hF
        refine l_call E go_25 rfl (calqueref26_Selection_w N x8.B r19 e378 hG ok) rfl rfl ?_
        rintro _ w ⟨rfl, ok⟩
        refine ⟨_, rfl, fun a E => ?_⟩
        refine l_val E ok (y_pickT rfl rfl) rfl rfl fun a E => ?_
        refine l_val E ok (y_move rfl) rfl rfl fun a E => ?_
        refine bsplit r377 (fun hc379 => ?_) (fun hc379 => ?_)
        rotate_left
        · replace hF := cond_f hc379 hF
          replace E := E.upd 148 hc379 rfl
          iterate 3 refine l_skip E rfl rfl fun a E => ?_
          refine l_val E ok (y_pickF rfl rfl) rfl rfl fun a E => ?_
          refine l_val E ok (y_assign rfl) rfl rfl fun a E => ?_
          refine wpList_nil ?_
          refine t_norm ?_
          refine wp_ret ?_
          refine b_ret ?_
          refine t_ret ?_
          have hret : calqueref34_Proper_R u m0 S false a w := ⟨ok.drop.drop, E.d, ⟨rv_t E rfl, trivial⟩⟩
          obtain rfl := Option.some.inj hF
          exact fin _ _ hret
        replace hF := cond_t hc379 hF
        replace E := E.upd 148 hc379 rfl
        refine l_val E ok (y_loadAgg (cs := [c1, c3]) agg_25 rfl rfl (Holds.own 1 rfl rfl)) rfl rfl fun a E => ?_
        refine l_val E ok (y_move rfl) rfl rfl fun a E => ?_
        obtain ⟨r380, e381, hF⟩ := bnd hF
        refine l_call E go_26 rfl (calqueref34_cases_w N _ c_0 ⟨_, _, rfl, h2, h4⟩ i_1 ri_1 e381 hG ok) rfl rfl ?_
        rintro _ w ⟨rfl, ok⟩
        refine ⟨_, rfl, fun a E => ?_⟩
        refine l_val E ok (y_pickT rfl rfl) rfl rfl fun a E => ?_
        refine l_val E ok (y_assign rfl) rfl rfl fun a E => ?_
        refine wpList_nil ?_
        refine t_norm ?_
        refine wp_ret ?_
        refine b_ret ?_
        refine t_ret ?_
        have hret : calqueref34_Proper_R u m0 S r380 a w := ⟨ok.drop.drop, E.d, ⟨rv_t E rfl, trivial⟩⟩
        obtain rfl := Option.some.inj hF
        exact fin _ _ hret
      replace hF := cond_f hc375 hF
      refine wp_seq ?_
      refine c_region ?_
      refine l_val E ok (y_eql rfl rfl) rfl rfl fun a E => ?_
      refine l_val E ok (y_assign rfl) rfl rfl fun a E => ?_
      refine wpList_nil ?_
      refine t_norm ?_
      refine c_if E rfl (fun hc382 => ?_) (fun hc382 => ?_)
      · as_aux_lemma =>
          replace hF := cond_t hc382 hF
          refine wp_seq ?_
          refine c_region ?_
          refine l_val E ok (y_move rfl) rfl rfl fun a E => ?_
          refine l_val E ok (y_gtr rfl rfl) rfl rfl fun a E => ?_
          refine l_val E ok (y_move rfl) rfl rfl fun a E => ?_
          refine bsplit (decide (i_1 > 0)) (fun hc383 => ?_) (fun hc383 => ?_)
          rotate_left
          · replace hF := cond_f hc383 hF
            replace E := E.upd 157 hc383 rfl
            iterate 18 refine l_skip E rfl rfl fun a E => ?_
            refine l_val E ok (y_pickF rfl rfl) rfl rfl fun a E => ?_
            refine l_val E ok (y_assign rfl) rfl rfl fun a E => ?_
            refine wpList_nil ?_
            refine t_norm ?_
            refine wp_ret ?_
            refine b_ret ?_
            refine t_ret ?_
            have hret : calqueref34_Proper_R u m0 S false a w := ⟨ok.drop.drop, E.d, ⟨rv_t E rfl, trivial⟩⟩
            obtain rfl := Option.some.inj hF
            exact fin _ _ hret
          replace hF := cond_t hc383 hF
          replace E := E.upd 157 hc383 rfl
          refine l_val E ok (y_fieldAddr fo_25_1 rfl) rfl rfl fun a E => ?_
          refine l_val E ok (y_load one_23 rfl (Holds.own 1 rfl rfl)) rfl rfl fun a E => ?_
          refine l_val E ok (y_move rfl) rfl rfl fun a E => ?_
          refine l_val E ok (y_sub rfl rfl (InR.dec ri_1 (show InR .i64 (0) by decide) hc383)) rfl rfl fun a E => ?_
          obtain ⟨x384, e385, hF⟩ := bnd hF
          obtain ⟨b386, o387, es388, hl389, rr390, at391, yy392⟩ := idxAt sl_23 h4 e385 (P := Tryd.prog) (X := .tmp 159) (I := .tmp 161) (kd := .i64) (ev_of E rfl) (ev_of E rfl)
          obtain ⟨rfl, r393, r394, r395, l396⟩ := rr390
          refine l_val E ok (yy392 _ _) rfl rfl fun a E => ?_
          refine l_val E ok (y_fieldAddr fo_35_0 rfl) rfl rfl fun a E => ?_
          refine l_val E ok (y_load one_3 rfl (Holds.ro (At.sub 0 1 at391))) rfl rfl fun a E => ?_
          refine l_val E ok (y_eql rfl rfl) rfl rfl fun a E => ?_
          refine l_val E ok (y_move rfl) rfl rfl fun a E => ?_
          refine bsplit (x384.Op == 10) (fun hc397 => ?_) (fun hc397 => ?_)
          · replace hF := cond_t hc397 hF
            replace E := E.upd 166 hc397 rfl
            iterate 8 refine l_skip E rfl rfl fun a E => ?_
            refine l_val E ok (y_pickT rfl rfl) rfl rfl fun a E => ?_
            refine l_val E ok (y_pickT rfl rfl) rfl rfl fun a E => ?_
            refine l_val E ok (y_assign rfl) rfl rfl fun a E => ?_
            refine wpList_nil ?_
            refine t_norm ?_
            refine wp_ret ?_
            refine b_ret ?_
            refine t_ret ?_
            have hret : calqueref34_Proper_R u m0 S true a w := ⟨ok.drop.drop, E.d, ⟨rv_t E rfl, trivial⟩⟩
            obtain rfl := Option.some.inj hF
            exact fin _ _ hret
          replace hF := cond_f hc397 hF
          replace E := E.upd 166 hc397 rfl
          refine l_val E ok (y_fieldAddr fo_25_1 rfl) rfl rfl fun a E => ?_
          refine l_val E ok (y_load one_23 rfl (Holds.own 1 rfl rfl)) rfl rfl fun a E => ?_
          refine l_val E ok (y_move rfl) rfl rfl fun a E => ?_
          refine l_val E ok (y_sub rfl rfl (InR.dec ri_1 (show InR .i64 (0) by decide) hc383)) rfl rfl fun a E => ?_
          obtain ⟨x398, e399, hF⟩ := bnd hF
          obtain ⟨b400, o401, es402, hl403, rr404, at405, yy406⟩ := idxAt sl_23 h4 e399 (P := Tryd.prog) (X := .tmp 168) (I := .tmp 170) (kd := .i64) (ev_of E rfl) (ev_of E rfl)
          obtain ⟨rfl, r407, r408, r409, l410⟩ := rr404
          refine l_val E ok (yy406 _ _) rfl rfl fun a E => ?_
          refine l_val E ok (y_fieldAddr fo_35_0 rfl) rfl rfl fun a E => ?_
          refine l_val E ok (y_load one_3 rfl (Holds.ro (At.sub 0 1 at405))) rfl rfl fun a E => ?_
          refine l_val E ok (y_eql rfl rfl) rfl rfl fun a E => ?_
          refine l_val E ok (y_pickF rfl rfl) rfl rfl fun a E => ?_
          refine l_val E ok (y_pickT rfl rfl) rfl rfl fun a E => ?_
          refine l_val E ok (y_assign rfl) rfl rfl fun a E => ?_
          refine wpList_nil ?_
          refine t_norm ?_
          refine wp_ret ?_
          refine b_ret ?_
          refine t_ret ?_
          have hret : calqueref34_Proper_R u m0 S (x398.Op == 11) a w := ⟨ok.drop.drop, E.d, ⟨rv_t E rfl, trivial⟩⟩
          obtain rfl := Option.some.inj hF
          exact fin _ _ hret
      replace hF := cond_f hc382 hF
      refine wp_seq ?_
      refine wp_seq ?_
      refine c_region ?_
      refine l_val E ok (y_eql rfl rfl) rfl rfl fun a E => ?_
      refine l_val E ok (y_assign rfl) rfl rfl fun a E => ?_
      refine wpList_nil ?_
      refine t_norm ?_
      obtain ⟨o411, hJ, hF⟩ := bnd hF
      refine c_mono (Q' := fun e a w => e = .normal ∧ Ok u m0 ([(b21, Obj.cells [(Value.int .i64 x8.Op), (Value.int .i64 x8.A), (Value.int .i64 x8.B), (Value.string (bs x8.S))].toArray 35 (0, 0))] :: [(b5, Obj.cells [c1, c3].toArray 25 (0, 0))] :: S) w ∧ Env 196 a [(1, (Value.int .i64 i_1)), (2, (Value.pointer (some ⟨b5, 0, none⟩))), (5, (Value.pointer (some ⟨b21, 0, none⟩))), (103, (Value.int .i64 x8.Op)), (177, (Value.bool o411))]) ?_ ?_
      · replace hF := hJ
        clear hJ
        refine c_if E rfl (fun hc412 => ?_) (fun hc412 => ?_)
        · replace hF := cond_t hc412 hF
          refine wp_skip ?_
          obtain rfl := Option.some.inj hF
          exact ⟨rfl, ⟨ok, E.keep [1, 2, 5, 103, 177]⟩⟩
        replace hF := cond_f hc412 hF
        refine c_region ?_
        refine l_val E ok (y_eql rfl rfl) rfl rfl fun a E => ?_
        refine l_val E ok (y_assign rfl) rfl rfl fun a E => ?_
        refine wpList_nil ?_
        obtain rfl := Option.some.inj hF
        exact ⟨rfl, ⟨ok, E.keep [1, 2, 5, 103, 177]⟩⟩
      clear hJ
      intro e a w hO
      obtain ⟨rfl, ok, E⟩ := hO
      refine t_norm ?_
      refine c_if E rfl (fun hc413 => ?_) (fun hc413 => ?_)
      · replace hF := cond_t hc413 hF
        refine wp_seq ?_
        refine c_region ?_
        refine l_val E ok (y_fieldAddr fo_35_3 rfl) rfl rfl fun a E => ?_
        refine l_val E ok (y_load one_9 rfl (Holds.own 0 rfl rfl)) rfl rfl fun a E => ?_
        refine l_val E ok (y_seql rfl rfl) rfl rfl fun a E => ?_
        refine l_val E ok (y_assign rfl) rfl rfl fun a E => ?_
        refine wpList_nil ?_
        refine t_norm ?_
        refine wp_ret ?_
        refine b_ret ?_
        refine t_ret ?_
        have hret : calqueref34_Proper_R u m0 S (x8.S == ([])) a w := ⟨ok.drop.drop, E.d, ⟨rv_t E rfl, trivial⟩⟩
        obtain rfl := Option.some.inj hF
        exact fin _ _ hret
      replace hF := cond_f hc413 hF
      refine wp_seq ?_
      refine c_region ?_
      refine l_val E ok (y_eql rfl rfl) rfl rfl fun a E => ?_
      refine l_val E ok (y_assign rfl) rfl rfl fun a E => ?_
      refine wpList_nil ?_
      refine t_norm ?_
      refine c_if E rfl (fun hc414 => ?_) (fun hc414 => ?_)
      rotate_left
      · replace hF := cond_f hc414 hF
        refine wp_skip ?_
        refine b_norm ?_
        refine t_norm ?_
        refine wp_seq ?_
        refine c_region ?_
        refine l_val E ok (y_assign rfl) rfl rfl fun a E => ?_
        refine wpList_nil ?_
        refine t_norm ?_
        refine wp_ret ?_
        have hret : calqueref34_Proper_R u m0 S false a w := ⟨ok.drop.drop, E.d, ⟨rv_t E rfl, trivial⟩⟩
        obtain rfl := Option.some.inj hF
        exact fin _ _ hret
      replace hF := cond_t hc414 hF
      refine wp_seq ?_
      refine c_region ?_
      refine l_val E ok (y_fieldAddr fo_35_3 rfl) rfl rfl fun a E => ?_
      refine l_val E ok (y_load one_9 rfl (Holds.own 0 rfl rfl)) rfl rfl fun a E => ?_
      refine l_val E ok (y_seql rfl rfl) rfl rfl fun a E => ?_
      refine l_val E ok (y_move rfl) rfl rfl fun a E => ?_
      refine bsplit (x8.S == ([])) (fun hc415 => ?_) (fun hc415 => ?_)
      · replace hF := cond_t hc415 hF
        replace E := E.upd 188 hc415 rfl
        refine l_val E ok (y_move rfl) rfl rfl fun a E => ?_
        refine l_val E ok (y_fieldAddr fo_25_1 rfl) rfl rfl fun a E => ?_
        refine l_val E ok (y_load one_23 rfl (Holds.own 1 rfl rfl)) rfl rfl fun a E => ?_
        refine l_val E ok (y_lenL sl_23 h4 rfl) rfl rfl fun a E => ?_
        refine l_val E ok (y_subw rfl rfl) rfl rfl fun a E => ?_
        refine l_val E ok (y_eql rfl rfl) rfl rfl fun a E => ?_
        refine l_val E ok (y_pickT rfl rfl) rfl rfl fun a E => ?_
        refine l_val E ok (y_assign rfl) rfl rfl fun a E => ?_
        refine wpList_nil ?_
        refine t_norm ?_
        refine wp_ret ?_
        refine b_ret ?_
        refine t_ret ?_
        have hret : calqueref34_Proper_R u m0 S (i_1 == (IntKind.wrap .i64 ((c_0.Ins.length : Int) - 1))) a w := ⟨ok.drop.drop, E.d, ⟨rv_t E rfl, trivial⟩⟩
        obtain rfl := Option.some.inj hF
        exact fin _ _ hret
      replace hF := cond_f hc415 hF
      replace E := E.upd 188 hc415 rfl
      iterate 6 refine l_skip E rfl rfl fun a E => ?_
      refine l_val E ok (y_pickF rfl rfl) rfl rfl fun a E => ?_
      refine l_val E ok (y_assign rfl) rfl rfl fun a E => ?_
      refine wpList_nil ?_
      refine t_norm ?_
      refine wp_ret ?_
      refine b_ret ?_
      refine t_ret ?_
      have hret : calqueref34_Proper_R u m0 S false a w := ⟨ok.drop.drop, E.d, ⟨rv_t E rfl, trivial⟩⟩
      obtain rfl := Option.some.inj hF
      exact fin _ _ hret
  replace hF := cond_t hc22 hF
  replace E := E.upd 25 hc22 rfl
  refine l_val E ok (y_fieldAddr fo_35_0 rfl) rfl rfl fun a E => ?_
  refine l_val E ok (y_load one_3 rfl (Holds.own 0 rfl rfl)) rfl rfl fun a E => ?_
  refine l_val E ok (y_leq rfl rfl) rfl rfl fun a E => ?_
  refine l_val E ok (y_pickT rfl rfl) rfl rfl fun a E => ?_
  refine l_val E ok (y_assign rfl) rfl rfl fun a E => ?_
  refine wpList_nil ?_
  refine t_norm ?_
  refine wp_seq ?_
  refine c_region ?_
  refine l_val E ok (y_fieldAddr fo_35_0 rfl) rfl rfl fun a E => ?_
  refine l_val E ok (y_load one_3 rfl (Holds.own 0 rfl rfl)) rfl rfl fun a E => ?_
  refine l_val E ok (y_eql rfl rfl) rfl rfl fun a E => ?_
  refine l_val E ok (y_move rfl) rfl rfl fun a E => ?_
  refine bsplit (x8.Op == 11) (fun hc23 => ?_) (fun hc23 => ?_)
  · as_aux_lemma =>
      replace hF := cond_t hc23 hF
      replace E := E.upd 33 hc23 rfl
      iterate 3 refine l_skip E rfl rfl fun a E => ?_
      refine l_val E ok (y_pickT rfl rfl) rfl rfl fun a E => ?_
      refine l_val E ok (y_assign rfl) rfl rfl fun a E => ?_
      refine wpList_nil ?_
      refine t_norm ?_
      refine wp_seq ?_
      refine wp_seq ?_
      obtain ⟨o24, hJ, hF⟩ := bnd hF
      refine c_mono (Q' := fun e a w => e = .normal ∧ Ok u m0 ([(b21, Obj.cells [(Value.int .i64 x8.Op), (Value.int .i64 x8.A), (Value.int .i64 x8.B), (Value.string (bs x8.S))].toArray 35 (0, 0))] :: [(b5, Obj.cells [c1, c3].toArray 25 (0, 0))] :: S) w ∧ Env 196 a [(1, (Value.int .i64 i_1)), (2, (Value.pointer (some ⟨b5, 0, none⟩))), (5, (Value.pointer (some ⟨b21, 0, none⟩))), (101, (Value.bool o24))]) ?_ ?_
      rotate_left
      · as_aux_lemma =>
          clear hJ
          intro e a w hO
          obtain ⟨rfl, ok, E⟩ := hO
          refine t_norm ?_
          refine c_if E rfl (fun hc72 => ?_) (fun hc72 => ?_)
          · replace hF := cond_t hc72 hF
            refine wp_seq ?_
            refine c_region ?_
            refine l_val E ok (y_assign rfl) rfl rfl fun a E => ?_
            refine wpList_nil ?_
            refine t_norm ?_
            refine wp_ret ?_
            refine t_ret ?_
            have hret : calqueref34_Proper_R u m0 S false a w := ⟨ok.drop.drop, E.d, ⟨rv_t E rfl, trivial⟩⟩
            obtain rfl := Option.some.inj hF
            exact fin _ _ hret
          replace hF := cond_f hc72 hF
          refine wp_skip ?_
          refine t_norm ?_
          refine wp_seq ?_
          refine wp_seq ?_
          refine c_region ?_
          refine l_val E ok (y_fieldAddr fo_35_0 rfl) rfl rfl fun a E => ?_
          refine l_val E ok (y_load one_3 rfl (Holds.own 0 rfl rfl)) rfl rfl fun a E => ?_
          refine wpList_nil ?_
          refine t_norm ?_
          refine wp_block ?_
          refine wp_seq ?_
          refine c_region ?_
          refine l_val E ok (y_eql rfl rfl) rfl rfl fun a E => ?_
          refine l_val E ok (y_assign rfl) rfl rfl fun a E => ?_
          refine wpList_nil ?_
          refine t_norm ?_
          refine c_if E rfl (fun hc73 => ?_) (fun hc73 => ?_)
          · replace hF := cond_t hc73 hF
            refine wp_seq ?_
            refine c_region ?_
            refine l_val E ok (y_fieldAddr fo_35_3 rfl) rfl rfl fun a E => ?_
            refine l_val E ok (y_load one_9 rfl (Holds.own 0 rfl rfl)) rfl rfl fun a E => ?_
            refine l_val E ok (y_sneq rfl rfl) rfl rfl fun a E => ?_
            refine l_val E ok (y_assign rfl) rfl rfl fun a E => ?_
            refine wpList_nil ?_
            refine t_norm ?_
            refine wp_ret ?_
            refine b_ret ?_
            refine t_ret ?_
            have hret : calqueref34_Proper_R u m0 S (x8.S != ([])) a w := ⟨ok.drop.drop, E.d, ⟨rv_t E rfl, trivial⟩⟩
            obtain rfl := Option.some.inj hF
            exact fin _ _ hret
          replace hF := cond_f hc73 hF
          refine wp_seq ?_
          refine wp_seq ?_
          refine c_region ?_
          refine l_val E ok (y_eql rfl rfl) rfl rfl fun a E => ?_
          refine l_val E ok (y_assign rfl) rfl rfl fun a E => ?_
          refine wpList_nil ?_
          refine t_norm ?_
          obtain ⟨o74, hJ, hF⟩ := bnd hF
          refine c_mono (Q' := fun e a w => e = .normal ∧ Ok u m0 ([(b21, Obj.cells [(Value.int .i64 x8.Op), (Value.int .i64 x8.A), (Value.int .i64 x8.B), (Value.string (bs x8.S))].toArray 35 (0, 0))] :: [(b5, Obj.cells [c1, c3].toArray 25 (0, 0))] :: S) w ∧ Env 196 a [(1, (Value.int .i64 i_1)), (2, (Value.pointer (some ⟨b5, 0, none⟩))), (5, (Value.pointer (some ⟨b21, 0, none⟩))), (103, (Value.int .i64 x8.Op)), (109, (Value.bool o74))]) ?_ ?_
          · replace hF := hJ
            clear hJ
            refine c_if E rfl (fun hc75 => ?_) (fun hc75 => ?_)
            · replace hF := cond_t hc75 hF
              refine wp_skip ?_
              obtain rfl := Option.some.inj hF
              exact ⟨rfl, ⟨ok, E.keep [1, 2, 5, 103, 109]⟩⟩
            replace hF := cond_f hc75 hF
            refine wp_seq ?_
            refine c_region ?_
            refine l_val E ok (y_eql rfl rfl) rfl rfl fun a E => ?_
            refine l_val E ok (y_assign rfl) rfl rfl fun a E => ?_
            refine wpList_nil ?_
            refine t_norm ?_
            refine c_if E rfl (fun hc76 => ?_) (fun hc76 => ?_)
            · replace hF := cond_t hc76 hF
              refine wp_skip ?_
              obtain rfl := Option.some.inj hF
              exact ⟨rfl, ⟨ok, E.keep [1, 2, 5, 103, 109]⟩⟩
            replace hF := cond_f hc76 hF
            refine wp_seq ?_
            refine c_region ?_
            refine l_val E ok (y_eql rfl rfl) rfl rfl fun a E => ?_
            refine l_val E ok (y_assign rfl) rfl rfl fun a E => ?_
            refine wpList_nil ?_
            refine t_norm ?_
            refine c_if E rfl (fun hc77 => ?_) (fun hc77 => ?_)
            · replace hF := cond_t hc77 hF
              refine wp_skip ?_
              obtain rfl := Option.some.inj hF
              exact ⟨rfl, ⟨ok, E.keep [1, 2, 5, 103, 109]⟩⟩
            replace hF := cond_f hc77 hF
            refine wp_seq ?_
            refine c_region ?_
            refine l_val E ok (y_eql rfl rfl) rfl rfl fun a E => ?_
            refine l_val E ok (y_assign rfl) rfl rfl fun a E => ?_
            refine wpList_nil ?_
            refine t_norm ?_
            refine c_if E rfl (fun hc78 => ?_) (fun hc78 => ?_)
            · replace hF := cond_t hc78 hF
              refine wp_skip ?_
              obtain rfl := Option.some.inj hF
              exact ⟨rfl, ⟨ok, E.keep [1, 2, 5, 103, 109]⟩⟩
            replace hF := cond_f hc78 hF
            refine c_region ?_
            refine l_val E ok (y_eql rfl rfl) rfl rfl fun a E => ?_
            refine l_val E ok (y_assign rfl) rfl rfl fun a E => ?_
            refine wpList_nil ?_
            obtain rfl := Option.some.inj hF
            exact ⟨rfl, ⟨ok, E.keep [1, 2, 5, 103, 109]⟩⟩
          clear hJ
          intro e a w hO
          obtain ⟨rfl, ok, E⟩ := hO
          refine t_norm ?_
          refine c_if E rfl (fun hc79 => ?_) (fun hc79 => ?_)
          · replace hF := cond_t hc79 hF
            refine wp_seq ?_
            refine c_region ?_
            refine l_val E ok (y_fieldAddr fo_35_3 rfl) rfl rfl fun a E => ?_
            refine l_val E ok (y_load one_9 rfl (Holds.own 0 rfl rfl)) rfl rfl fun a E => ?_
            obtain ⟨r80, e81, hF⟩ := bnd hF
            refine l_call E go_23 rfl (calqueref25_Name_w N x8.S l20 e81 hG ok) rfl rfl ?_
            rintro _ w ⟨rfl, ok⟩
            refine ⟨_, rfl, fun a E => ?_⟩
            refine l_val E ok (y_assign rfl) rfl rfl fun a E => ?_
            refine wpList_nil ?_
            refine t_norm ?_
            refine wp_ret ?_
            refine b_ret ?_
            refine t_ret ?_
            have hret : calqueref34_Proper_R u m0 S r80 a w := ⟨ok.drop.drop, E.d, ⟨rv_t E rfl, trivial⟩⟩
            obtain rfl := Option.some.inj hF
            exact fin _ _ hret
          replace hF := cond_f hc79 hF
          refine wp_seq ?_
          refine c_region ?_
          refine l_val E ok (y_eql rfl rfl) rfl rfl fun a E => ?_
          refine l_val E ok (y_assign rfl) rfl rfl fun a E => ?_
          refine wpList_nil ?_
          refine t_norm ?_
          refine c_if E rfl (fun hc82 => ?_) (fun hc82 => ?_)
          · replace hF := cond_t hc82 hF
            refine wp_seq ?_
            refine c_region ?_
            refine l_val E ok (y_fieldAddr fo_35_3 rfl) rfl rfl fun a E => ?_
            refine l_val E ok (y_load one_9 rfl (Holds.own 0 rfl rfl)) rfl rfl fun a E => ?_
            refine l_val E ok (y_seql rfl rfl) rfl rfl fun a E => ?_
            refine l_val E ok (y_move rfl) rfl rfl fun a E => ?_
            refine bsplit (x8.S == ([])) (fun hc83 => ?_) (fun hc83 => ?_)
            · replace hF := cond_t hc83 hF
              replace E := E.upd 123 hc83 rfl
              iterate 3 refine l_skip E rfl rfl fun a E => ?_
              refine l_val E ok (y_pickT rfl rfl) rfl rfl fun a E => ?_
              refine l_val E ok (y_move rfl) rfl rfl fun a E => ?_
              iterate 3 refine l_skip E rfl rfl fun a E => ?_
              refine l_val E ok (y_pickT rfl rfl) rfl rfl fun a E => ?_
              refine l_val E ok (y_assign rfl) rfl rfl fun a E => ?_
              refine wpList_nil ?_
              refine t_norm ?_
              refine wp_ret ?_
              refine b_ret ?_
              refine t_ret ?_
              have hret : calqueref34_Proper_R u m0 S true a w := ⟨ok.drop.drop, E.d, ⟨rv_t E rfl, trivial⟩⟩
              obtain rfl := Option.some.inj hF
              exact fin _ _ hret
            replace hF := cond_f hc83 hF
            replace E := E.upd 123 hc83 rfl
            refine l_val E ok (y_fieldAddr fo_35_3 rfl) rfl rfl fun a E => ?_
            refine l_val E ok (y_load one_9 rfl (Holds.own 0 rfl rfl)) rfl rfl fun a E => ?_
            refine l_val E ok (y_seql rfl rfl) rfl rfl fun a E => ?_
            refine l_val E ok (y_pickF rfl rfl) rfl rfl fun a E => ?_
            refine l_val E ok (y_move rfl) rfl rfl fun a E => ?_
            refine bsplit (x8.S == ([105, 110, 116, 101, 103, 101, 114])) (fun hc84 => ?_) (fun hc84 => ?_)
            · replace hF := cond_t hc84 hF
              replace E := E.upd 128 hc84 rfl
              iterate 3 refine l_skip E rfl rfl fun a E => ?_
              refine l_val E ok (y_pickT rfl rfl) rfl rfl fun a E => ?_
              refine l_val E ok (y_assign rfl) rfl rfl fun a E => ?_
              refine wpList_nil ?_
              refine t_norm ?_
              refine wp_ret ?_
              refine b_ret ?_
              refine t_ret ?_
              have hret : calqueref34_Proper_R u m0 S true a w := ⟨ok.drop.drop, E.d, ⟨rv_t E rfl, trivial⟩⟩
              obtain rfl := Option.some.inj hF
              exact fin _ _ hret
            replace hF := cond_f hc84 hF
            replace E := E.upd 128 hc84 rfl
            refine l_val E ok (y_fieldAddr fo_35_3 rfl) rfl rfl fun a E => ?_
            refine l_val E ok (y_load one_9 rfl (Holds.own 0 rfl rfl)) rfl rfl fun a E => ?_
            refine l_val E ok (y_seql rfl rfl) rfl rfl fun a E => ?_
            refine l_val E ok (y_pickF rfl rfl) rfl rfl fun a E => ?_
            refine l_val E ok (y_assign rfl) rfl rfl fun a E => ?_
            refine wpList_nil ?_
            refine t_norm ?_
            refine wp_ret ?_
            refine b_ret ?_
            refine t_ret ?_
            have hret : calqueref34_Proper_R u m0 S (x8.S == ([112, 101, 114, 99, 101, 110, 116])) a w := ⟨ok.drop.drop, E.d, ⟨rv_t E rfl, trivial⟩⟩
            obtain rfl := Option.some.inj hF
            exact fin _ _ hret
          replace hF := cond_f hc82 hF
          refine wp_seq ?_
          refine c_region ?_
          refine l_val E ok (y_eql rfl rfl) rfl rfl fun a E => ?_
          refine l_val E ok (y_assign rfl) rfl rfl fun a E => ?_
          refine wpList_nil ?_
          refine t_norm ?_
          refine c_if E rfl (fun hc85 => ?_) (fun hc85 => ?_)
          · replace hF := cond_t hc85 hF
            refine wp_seq ?_
            refine c_region ?_
            refine l_val E ok (y_fieldAddr fo_35_3 rfl) rfl rfl fun a E => ?_
            refine l_val E ok (y_load one_9 rfl (Holds.own 0 rfl rfl)) rfl rfl fun a E => ?_
            obtain ⟨r86, e87, hF⟩ := bnd hF
            refine l_call E go_24 rfl (calqueref26_Skeleton_w N x8.S l20 e87 hG ok) rfl rfl ?_
            rintro _ w ⟨rfl, ok⟩
            refine ⟨_, rfl, fun a E => ?_⟩
            refine l_val E ok (y_assign rfl) rfl rfl fun a E => ?_
            refine wpList_nil ?_
            refine t_norm ?_
            refine wp_ret ?_
            refine b_ret ?_
            refine t_ret ?_
            have hret : calqueref34_Proper_R u m0 S r86 a w := ⟨ok.drop.drop, E.d, ⟨rv_t E rfl, trivial⟩⟩
            obtain rfl := Option.some.inj hF
            exact fin _ _ hret
          replace hF := cond_f hc85 hF
          refine wp_seq ?_
          refine c_region ?_
          refine l_val E ok (y_eql rfl rfl) rfl rfl fun a E => ?_
          refine l_val E ok (y_assign rfl) rfl rfl fun a E => ?_
          refine wpList_nil ?_
          refine t_norm ?_
          refine c_if E rfl (fun hc88 => ?_) (fun hc88 => ?_)
          · replace hF := cond_t hc88 hF
            refine wp_seq ?_
            refine c_region ?_
            refine l_val E ok (y_fieldAddr fo_35_3 rfl) rfl rfl fun a E => ?_
            refine l_val E ok (y_load one_9 rfl (Holds.own 0 rfl rfl)) rfl rfl fun a E => ?_
            refine l_val E ok (y_seql rfl rfl) rfl rfl fun a E => ?_
            refine l_val E ok (y_move rfl) rfl rfl fun a E => ?_
            refine bsplit (x8.S == ([])) (fun hc89 => ?_) (fun hc89 => ?_)
            rotate_left
            · replace hF := cond_f hc89 hF
              replace E := E.upd 143 hc89 rfl
              iterate 3 refine l_skip E rfl rfl fun a E => ?_
              refine l_val E ok (y_pickF rfl rfl) rfl rfl fun a E => ?_
              refine l_val E ok (y_move rfl) rfl rfl fun a E => ?_
              iterate 3 refine l_skip E rfl rfl fun a E => ?_
              refine l_val E ok (y_pickF rfl rfl) rfl rfl fun a E => ?_
              refine l_val E ok (y_assign rfl) rfl rfl fun a E => ?_
              refine wpList_nil ?_
              refine t_norm ?_
              refine wp_ret ?_
              refine b_ret ?_
              refine t_ret ?_
              have hret : calqueref34_Proper_R u m0 S false a w := ⟨ok.drop.drop, E.d, ⟨rv_t E rfl, trivial⟩⟩
              obtain rfl := Option.some.inj hF
              exact fin _ _ hret
            replace hF := cond_t hc89 hF
            replace E := E.upd 143 hc89 rfl
            refine l_val E ok (y_fieldAddr fo_35_2 rfl) rfl rfl fun a E => ?_
            refine l_val E ok (y_load one_3 rfl (Holds.own 0 rfl rfl)) rfl rfl fun a E => ?_
            obtain ⟨r90, e91, hF⟩ := bnd hF
            refine l_call E go_25 rfl (calqueref26_Selection_w N x8.B r19 e91 hG ok) rfl rfl ?_
            rintro _ w ⟨rfl, ok⟩
            refine ⟨_, rfl, fun a E => ?_⟩
            refine l_val E ok (y_pickT rfl rfl) rfl rfl fun a E => ?_
            refine l_val E ok (y_move rfl) rfl rfl fun a E => ?_
            refine bsplit r90 (fun hc92 => ?_) (fun hc92 => ?_)
            rotate_left
            · replace hF := cond_f hc92 hF
              replace E := E.upd 148 hc92 rfl
              iterate 3 refine l_skip E rfl rfl fun a E => ?_
              refine l_val E ok (y_pickF rfl rfl) rfl rfl fun a E => ?_
              refine l_val E ok (y_assign rfl) rfl rfl fun a E => ?_
              refine wpList_nil ?_
              refine t_norm ?_
              refine wp_ret ?_
              refine b_ret ?_
              refine t_ret ?_
              have hret : calqueref34_Proper_R u m0 S false a w := ⟨ok.drop.drop, E.d, ⟨rv_t E rfl, trivial⟩⟩
              obtain rfl := Option.some.inj hF
              exact fin _ _ hret
            replace hF := cond_t hc92 hF
            replace E := E.upd 148 hc92 rfl
            refine l_val E ok (y_loadAgg (cs := [c1, c3]) agg_25 rfl rfl (Holds.own 1 rfl rfl)) rfl rfl fun a E => ?_
            refine l_val E ok (y_move rfl) rfl rfl fun a E => ?_
            obtain ⟨r93, e94, hF⟩ := bnd hF
            refine l_call E go_26 rfl (calqueref34_cases_w N _ c_0 ⟨_, _, rfl, h2, h4⟩ i_1 ri_1 e94 hG ok) rfl rfl ?_
            rintro _ w ⟨rfl, ok⟩
            refine ⟨_, rfl, fun a E => ?_⟩
            refine l_val E ok (y_pickT rfl rfl) rfl rfl fun a E => ?_
            refine l_val E ok (y_assign rfl) rfl rfl fun a E => ?_
            refine wpList_nil ?_
            refine t_norm ?_
            refine wp_ret ?_
            refine b_ret ?_
            refine t_ret ?_
            have hret : calqueref34_Proper_R u m0 S r93 a w := ⟨ok.drop.drop, E.d, ⟨rv_t E rfl, trivial⟩⟩
            obtain rfl := Option.some.inj hF
            exact fin _ _ hret
          replace hF := cond_f hc88 hF
          refine wp_seq ?_
          refine c_region ?_
          refine l_val E ok (y_eql rfl rfl) rfl rfl fun a E => ?_
          refine l_val E ok (y_assign rfl) rfl rfl fun a E => ?_
          refine wpList_nil ?_
          refine t_norm ?_
          refine c_if E rfl (fun hc95 => ?_) (fun hc95 => ?_)
          · as_aux_lemma =>
              replace hF := cond_t hc95 hF
              refine wp_seq ?_
              refine c_region ?_
              refine l_val E ok (y_move rfl) rfl rfl fun a E => ?_
              refine l_val E ok (y_gtr rfl rfl) rfl rfl fun a E => ?_
              refine l_val E ok (y_move rfl) rfl rfl fun a E => ?_
              refine bsplit (decide (i_1 > 0)) (fun hc96 => ?_) (fun hc96 => ?_)
              rotate_left
              · replace hF := cond_f hc96 hF
                replace E := E.upd 157 hc96 rfl
                iterate 18 refine l_skip E rfl rfl fun a E => ?_
                refine l_val E ok (y_pickF rfl rfl) rfl rfl fun a E => ?_
                refine l_val E ok (y_assign rfl) rfl rfl fun a E => ?_
                refine wpList_nil ?_
                refine t_norm ?_
                refine wp_ret ?_
                refine b_ret ?_
                refine t_ret ?_
                have hret : calqueref34_Proper_R u m0 S false a w := ⟨ok.drop.drop, E.d, ⟨rv_t E rfl, trivial⟩⟩
                obtain rfl := Option.some.inj hF
                exact fin _ _ hret
              replace hF := cond_t hc96 hF
              replace E := E.upd 157 hc96 rfl
              refine l_val E ok (y_fieldAddr fo_25_1 rfl) rfl rfl fun a E => ?_
              refine l_val E ok (y_load one_23 rfl (Holds.own 1 rfl rfl)) rfl rfl fun a E => ?_
              refine l_val E ok (y_move rfl) rfl rfl fun a E => ?_
              refine l_val E ok (y_sub rfl rfl (InR.dec ri_1 (show InR .i64 (0) by decide) hc96)) rfl rfl fun a E => ?_
              obtain ⟨x97, e98, hF⟩ := bnd hF
              obtain ⟨b99, o100, es101, hl102, rr103, at104, yy105⟩ := idxAt sl_23 h4 e98 (P := Tryd.prog) (X := .tmp 159) (I := .tmp 161) (kd := .i64) (ev_of E rfl) (ev_of E rfl)
              obtain ⟨rfl, r106, r107, r108, l109⟩ := rr103
              refine l_val E ok (yy105 _ _) rfl rfl fun a E => ?_
              refine l_val E ok (y_fieldAddr fo_35_0 rfl) rfl rfl fun a E => ?_
              refine l_val E ok (y_load one_3 rfl (Holds.ro (At.sub 0 1 at104))) rfl rfl fun a E => ?_
              refine l_val E ok (y_eql rfl rfl) rfl rfl fun a E => ?_
              refine l_val E ok (y_move rfl) rfl rfl fun a E => ?_
              refine bsplit (x97.Op == 10) (fun hc110 => ?_) (fun hc110 => ?_)
              · replace hF := cond_t hc110 hF
                replace E := E.upd 166 hc110 rfl
                iterate 8 refine l_skip E rfl rfl fun a E => ?_
                refine l_val E ok (y_pickT rfl rfl) rfl rfl fun a E => ?_
                refine l_val E ok (y_pickT rfl rfl) rfl rfl fun a E => ?_
                refine l_val E ok (y_assign rfl) rfl rfl fun a E => ?_
                refine wpList_nil ?_
                refine t_norm ?_
                refine wp_ret ?_
                refine b_ret ?_
                refine t_ret ?_
                have hret : calqueref34_Proper_R u m0 S true a w := ⟨ok.drop.drop, E.d, ⟨rv_t E rfl, trivial⟩⟩
                obtain rfl := Option.some.inj hF
                exact fin _ _ hret
              replace hF := cond_f hc110 hF
              replace E := E.upd 166 hc110 rfl
              refine l_val E ok (y_fieldAddr fo_25_1 rfl) rfl rfl fun a E => ?_
              refine l_val E ok (y_load one_23 rfl (Holds.own 1 rfl rfl)) rfl rfl fun a E => ?_
              refine l_val E ok (y_move rfl) rfl rfl fun a E => ?_
              refine l_val E ok (y_sub rfl rfl (InR.dec ri_1 (show InR .i64 (0) by decide) hc96)) rfl rfl fun a E => ?_
              obtain ⟨x111, e112, hF⟩ := bnd hF
              obtain ⟨b113, o114, es115, hl116, rr117, at118, yy119⟩ := idxAt sl_23 h4 e112 (P := Tryd.prog) (X := .tmp 168) (I := .tmp 170) (kd := .i64) (ev_of E rfl) (ev_of E rfl)
              obtain ⟨rfl, r120, r121, r122, l123⟩ := rr117
              refine l_val E ok (yy119 _ _) rfl rfl fun a E => ?_
              refine l_val E ok (y_fieldAddr fo_35_0 rfl) rfl rfl fun a E => ?_
              refine l_val E ok (y_load one_3 rfl (Holds.ro (At.sub 0 1 at118))) rfl rfl fun a E => ?_
              refine l_val E ok (y_eql rfl rfl) rfl rfl fun a E => ?_
              refine l_val E ok (y_pickF rfl rfl) rfl rfl fun a E => ?_
              refine l_val E ok (y_pickT rfl rfl) rfl rfl fun a E => ?_
              refine l_val E ok (y_assign rfl) rfl rfl fun a E => ?_
              refine wpList_nil ?_
              refine t_norm ?_
              refine wp_ret ?_
              refine b_ret ?_
              refine t_ret ?_
              have hret : calqueref34_Proper_R u m0 S (x111.Op == 11) a w := ⟨ok.drop.drop, E.d, ⟨rv_t E rfl, trivial⟩⟩
              obtain rfl := Option.some.inj hF
              exact fin _ _ hret
          replace hF := cond_f hc95 hF
          refine wp_seq ?_
          refine wp_seq ?_
          refine c_region ?_
          refine l_val E ok (y_eql rfl rfl) rfl rfl fun a E => ?_
          refine l_val E ok (y_assign rfl) rfl rfl fun a E => ?_
          refine wpList_nil ?_
          refine t_norm ?_
          obtain ⟨o124, hJ, hF⟩ := bnd hF
          refine c_mono (Q' := fun e a w => e = .normal ∧ Ok u m0 ([(b21, Obj.cells [(Value.int .i64 x8.Op), (Value.int .i64 x8.A), (Value.int .i64 x8.B), (Value.string (bs x8.S))].toArray 35 (0, 0))] :: [(b5, Obj.cells [c1, c3].toArray 25 (0, 0))] :: S) w ∧ Env 196 a [(1, (Value.int .i64 i_1)), (2, (Value.pointer (some ⟨b5, 0, none⟩))), (5, (Value.pointer (some ⟨b21, 0, none⟩))), (103, (Value.int .i64 x8.Op)), (177, (Value.bool o124))]) ?_ ?_
          · replace hF := hJ
            clear hJ
            refine c_if E rfl (fun hc125 => ?_) (fun hc125 => ?_)
            · replace hF := cond_t hc125 hF
              refine wp_skip ?_
              obtain rfl := Option.some.inj hF
              exact ⟨rfl, ⟨ok, E.keep [1, 2, 5, 103, 177]⟩⟩
            replace hF := cond_f hc125 hF
            refine c_region ?_
            refine l_val E ok (y_eql rfl rfl) rfl rfl fun a E => ?_
            refine l_val E ok (y_assign rfl) rfl rfl fun a E => ?_
            refine wpList_nil ?_
            obtain rfl := Option.some.inj hF
            exact ⟨rfl, ⟨ok, E.keep [1, 2, 5, 103, 177]⟩⟩
          clear hJ
          intro e a w hO
          obtain ⟨rfl, ok, E⟩ := hO
          refine t_norm ?_
          refine c_if E rfl (fun hc126 => ?_) (fun hc126 => ?_)
          · replace hF := cond_t hc126 hF
            refine wp_seq ?_
            refine c_region ?_
            refine l_val E ok (y_fieldAddr fo_35_3 rfl) rfl rfl fun a E => ?_
            refine l_val E ok (y_load one_9 rfl (Holds.own 0 rfl rfl)) rfl rfl fun a E => ?_
            refine l_val E ok (y_seql rfl rfl) rfl rfl fun a E => ?_
            refine l_val E ok (y_assign rfl) rfl rfl fun a E => ?_
            refine wpList_nil ?_
            refine t_norm ?_
            refine wp_ret ?_
            refine b_ret ?_
            refine t_ret ?_
            have hret : calqueref34_Proper_R u m0 S (x8.S == ([])) a w := ⟨ok.drop.drop, E.d, ⟨rv_t E rfl, trivial⟩⟩
            obtain rfl := Option.some.inj hF
            exact fin _ _ hret
          replace hF := cond_f hc126 hF
          refine wp_seq ?_
          refine c_region ?_
          refine l_val E ok (y_eql rfl rfl) rfl rfl fun a E => ?_
          refine l_val E ok (y_assign rfl) rfl rfl fun a E => ?_
          refine wpList_nil ?_
          refine t_norm ?_
          refine c_if E rfl (fun hc127 => ?_) (fun hc127 => ?_)
          rotate_left
          · replace hF := cond_f hc127 hF
            refine wp_skip ?_
            refine b_norm ?_
            refine t_norm ?_
            refine wp_seq ?_
            refine c_region ?_
            refine l_val E ok (y_assign rfl) rfl rfl fun a E => ?_
            refine wpList_nil ?_
            refine t_norm ?_
            refine wp_ret ?_
            have hret : calqueref34_Proper_R u m0 S false a w := ⟨ok.drop.drop, E.d, ⟨rv_t E rfl, trivial⟩⟩
            obtain rfl := Option.some.inj hF
            exact fin _ _ hret
          replace hF := cond_t hc127 hF
          refine wp_seq ?_
          refine c_region ?_
          refine l_val E ok (y_fieldAddr fo_35_3 rfl) rfl rfl fun a E => ?_
          refine l_val E ok (y_load one_9 rfl (Holds.own 0 rfl rfl)) rfl rfl fun a E => ?_
          refine l_val E ok (y_seql rfl rfl) rfl rfl fun a E => ?_
          refine l_val E ok (y_move rfl) rfl rfl fun a E => ?_
          refine bsplit (x8.S == ([])) (fun hc128 => ?_) (fun hc128 => ?_)
          · replace hF := cond_t hc128 hF
            replace E := E.upd 188 hc128 rfl
            refine l_val E ok (y_move rfl) rfl rfl fun a E => ?_
            refine l_val E ok (y_fieldAddr fo_25_1 rfl) rfl rfl fun a E => ?_
            refine l_val E ok (y_load one_23 rfl (Holds.own 1 rfl rfl)) rfl rfl fun a E => ?_
            refine l_val E ok (y_lenL sl_23 h4 rfl) rfl rfl fun a E => ?_
            refine l_val E ok (y_subw rfl rfl) rfl rfl fun a E => ?_
            refine l_val E ok (y_eql rfl rfl) rfl rfl fun a E => ?_
            refine l_val E ok (y_pickT rfl rfl) rfl rfl fun a E => ?_
            refine l_val E ok (y_assign rfl) rfl rfl fun a E => ?_
            refine wpList_nil ?_
            refine t_norm ?_
            refine wp_ret ?_
            refine b_ret ?_
            refine t_ret ?_
            have hret : calqueref34_Proper_R u m0 S (i_1 == (IntKind.wrap .i64 ((c_0.Ins.length : Int) - 1))) a w := ⟨ok.drop.drop, E.d, ⟨rv_t E rfl, trivial⟩⟩
            obtain rfl := Option.some.inj hF
            exact fin _ _ hret
          replace hF := cond_f hc128 hF
          replace E := E.upd 188 hc128 rfl
          iterate 6 refine l_skip E rfl rfl fun a E => ?_
          refine l_val E ok (y_pickF rfl rfl) rfl rfl fun a E => ?_
          refine l_val E ok (y_assign rfl) rfl rfl fun a E => ?_
          refine wpList_nil ?_
          refine t_norm ?_
          refine wp_ret ?_
          refine b_ret ?_
          refine t_ret ?_
          have hret : calqueref34_Proper_R u m0 S false a w := ⟨ok.drop.drop, E.d, ⟨rv_t E rfl, trivial⟩⟩
          obtain rfl := Option.some.inj hF
          exact fin _ _ hret
      replace hF := hJ
      clear hJ
      refine c_region ?_
      refine l_val E ok (y_move rfl) rfl rfl fun a E => ?_
      refine l_val E ok (y_move rfl) rfl rfl fun a E => ?_
      refine bsplit (decide (x8.Op ≤ 10)) (fun hc25 => ?_) (fun hc25 => ?_)
      rotate_left
      · as_aux_lemma =>
          replace hF := cond_f hc25 hF
          replace E := E.upd 39 hc25 rfl
          iterate 11 refine l_skip E rfl rfl fun a E => ?_
          refine l_val E ok (y_pickF rfl rfl) rfl rfl fun a E => ?_
          refine l_val E ok (y_move rfl) rfl rfl fun a E => ?_
          refine l_val E ok (y_move rfl) rfl rfl fun a E => ?_
          refine l_val E ok (y_move rfl) rfl rfl fun a E => ?_
          refine l_val E ok (y_fieldAddr fo_35_1 rfl) rfl rfl fun a E => ?_
          refine l_val E ok (y_load one_3 rfl (Holds.own 0 rfl rfl)) rfl rfl fun a E => ?_
          refine l_val E ok (y_move rfl) rfl rfl fun a E => ?_
          refine l_val E ok (y_leq rfl rfl) rfl rfl fun a E => ?_
          refine l_val E ok (y_move rfl) rfl rfl fun a E => ?_
          refine bsplit (decide (x8.A ≤ i_1)) (fun hc50 => ?_) (fun hc50 => ?_)
          · replace hF := cond_t hc50 hF
            replace E := E.upd 59 hc50 rfl
            iterate 6 refine l_skip E rfl rfl fun a E => ?_
            refine l_val E ok (y_pickT rfl rfl) rfl rfl fun a E => ?_
            refine l_val E ok (y_move rfl) rfl rfl fun a E => ?_
            iterate 8 refine l_skip E rfl rfl fun a E => ?_
            refine l_val E ok (y_pickT rfl rfl) rfl rfl fun a E => ?_
            refine l_val E ok (y_pickT rfl rfl) rfl rfl fun a E => ?_
            refine l_val E ok (y_pickF rfl rfl) rfl rfl fun a E => ?_
            refine l_val E ok (y_move rfl) rfl rfl fun a E => ?_
            iterate 11 refine l_skip E rfl rfl fun a E => ?_
            refine l_val E ok (y_pickT rfl rfl) rfl rfl fun a E => ?_
            refine l_val E ok (y_move rfl) rfl rfl fun a E => ?_
            iterate 8 refine l_skip E rfl rfl fun a E => ?_
            refine l_val E ok (y_pickT rfl rfl) rfl rfl fun a E => ?_
            refine wpList_nil ?_
            obtain rfl := Option.some.inj hF
            exact ⟨rfl, ⟨ok, E.keep [1, 2, 5, 101]⟩⟩
          replace hF := cond_f hc50 hF
          replace E := E.upd 59 hc50 rfl
          refine l_val E ok (y_fieldAddr fo_35_1 rfl) rfl rfl fun a E => ?_
          refine l_val E ok (y_load one_3 rfl (Holds.own 0 rfl rfl)) rfl rfl fun a E => ?_
          refine l_val E ok (y_fieldAddr fo_25_1 rfl) rfl rfl fun a E => ?_
          refine l_val E ok (y_load one_23 rfl (Holds.own 1 rfl rfl)) rfl rfl fun a E => ?_
          refine l_val E ok (y_lenL sl_23 h4 rfl) rfl rfl fun a E => ?_
          refine l_val E ok (y_geq rfl rfl) rfl rfl fun a E => ?_
          refine l_val E ok (y_pickF rfl rfl) rfl rfl fun a E => ?_
          refine l_val E ok (y_move rfl) rfl rfl fun a E => ?_
          refine bsplit (decide (x8.A ≥ (c_0.Ins.length : Int))) (fun hc51 => ?_) (fun hc51 => ?_)
          · replace hF := cond_t hc51 hF
            replace E := E.upd 67 hc51 rfl
            iterate 8 refine l_skip E rfl rfl fun a E => ?_
            refine l_val E ok (y_pickT rfl rfl) rfl rfl fun a E => ?_
            refine l_val E ok (y_pickT rfl rfl) rfl rfl fun a E => ?_
            refine l_val E ok (y_pickF rfl rfl) rfl rfl fun a E => ?_
            refine l_val E ok (y_move rfl) rfl rfl fun a E => ?_
            iterate 11 refine l_skip E rfl rfl fun a E => ?_
            refine l_val E ok (y_pickT rfl rfl) rfl rfl fun a E => ?_
            refine l_val E ok (y_move rfl) rfl rfl fun a E => ?_
            iterate 8 refine l_skip E rfl rfl fun a E => ?_
            refine l_val E ok (y_pickT rfl rfl) rfl rfl fun a E => ?_
            refine wpList_nil ?_
            obtain rfl := Option.some.inj hF
            exact ⟨rfl, ⟨ok, E.keep [1, 2, 5, 101]⟩⟩
          replace hF := cond_f hc51 hF
          replace E := E.upd 67 hc51 rfl
          refine l_val E ok (y_fieldAddr fo_25_1 rfl) rfl rfl fun a E => ?_
          refine l_val E ok (y_load one_23 rfl (Holds.own 1 rfl rfl)) rfl rfl fun a E => ?_
          refine l_val E ok (y_fieldAddr fo_35_1 rfl) rfl rfl fun a E => ?_
          refine l_val E ok (y_load one_3 rfl (Holds.own 0 rfl rfl)) rfl rfl fun a E => ?_
          obtain ⟨x52, e53, hF⟩ := bnd hF
          obtain ⟨b54, o55, es56, hl57, rr58, at59, yy60⟩ := idxAt sl_23 h4 e53 (P := Tryd.prog) (X := .tmp 69) (I := .tmp 71) (kd := .i64) (ev_of E rfl) (ev_of E rfl)
          obtain ⟨rfl, r61, r62, r63, l64⟩ := rr58
          refine l_val E ok (yy60 _ _) rfl rfl fun a E => ?_
          refine l_val E ok (y_fieldAddr fo_35_0 rfl) rfl rfl fun a E => ?_
          refine l_val E ok (y_load one_3 rfl (Holds.ro (At.sub 0 1 at59))) rfl rfl fun a E => ?_
          refine l_val E ok (y_eql rfl rfl) rfl rfl fun a E => ?_
          refine l_val E ok (y_pickF rfl rfl) rfl rfl fun a E => ?_
          refine l_val E ok (y_pickT rfl rfl) rfl rfl fun a E => ?_
          refine l_val E ok (y_pickF rfl rfl) rfl rfl fun a E => ?_
          refine l_val E ok (y_move rfl) rfl rfl fun a E => ?_
          refine bsplit (x52.Op == 11) (fun hc65 => ?_) (fun hc65 => ?_)
          · replace hF := cond_t hc65 hF
            replace E := E.upd 79 hc65 rfl
            iterate 11 refine l_skip E rfl rfl fun a E => ?_
            refine l_val E ok (y_pickT rfl rfl) rfl rfl fun a E => ?_
            refine l_val E ok (y_move rfl) rfl rfl fun a E => ?_
            iterate 8 refine l_skip E rfl rfl fun a E => ?_
            refine l_val E ok (y_pickT rfl rfl) rfl rfl fun a E => ?_
            refine wpList_nil ?_
            obtain rfl := Option.some.inj hF
            exact ⟨rfl, ⟨ok, E.keep [1, 2, 5, 101]⟩⟩
          replace hF := cond_f hc65 hF
          replace E := E.upd 79 hc65 rfl
          refine l_val E ok (y_move rfl) rfl rfl fun a E => ?_
          refine l_val E ok (y_not rfl) rfl rfl fun a E => ?_
          refine l_val E ok (y_move rfl) rfl rfl fun a E => ?_
          refine bsplit (!(decide (x8.Op ≤ 10))) (fun hc66 => ?_) (fun hc66 => ?_)
          rotate_left
          · replace hF := cond_f hc66 hF
            replace E := E.upd 82 hc66 rfl
            iterate 2 refine l_skip E rfl rfl fun a E => ?_
            refine l_val E ok (y_pickF rfl rfl) rfl rfl fun a E => ?_
            refine l_val E ok (y_move rfl) rfl rfl fun a E => ?_
            iterate 3 refine l_skip E rfl rfl fun a E => ?_
            refine l_val E ok (y_pickF rfl rfl) rfl rfl fun a E => ?_
            refine l_val E ok (y_pickF rfl rfl) rfl rfl fun a E => ?_
            refine l_val E ok (y_move rfl) rfl rfl fun a E => ?_
            refine l_val E ok (y_fieldAddr fo_35_0 rfl) rfl rfl fun a E => ?_
            refine l_val E ok (y_load one_3 rfl (Holds.own 0 rfl rfl)) rfl rfl fun a E => ?_
            refine l_val E ok (y_neq rfl rfl) rfl rfl fun a E => ?_
            refine l_val E ok (y_move rfl) rfl rfl fun a E => ?_
            refine bsplit (x8.Op != 10) (fun hc71 => ?_) (fun hc71 => ?_)
            · replace hF := cond_t hc71 hF
              replace E := E.upd 96 hc71 rfl
              refine l_val E ok (y_fieldAddr fo_35_2 rfl) rfl rfl fun a E => ?_
              refine l_val E ok (y_load one_3 rfl (Holds.own 0 rfl rfl)) rfl rfl fun a E => ?_
              refine l_val E ok (y_neq rfl rfl) rfl rfl fun a E => ?_
              refine l_val E ok (y_pickT rfl rfl) rfl rfl fun a E => ?_
              refine l_val E ok (y_pickF rfl rfl) rfl rfl fun a E => ?_
              refine wpList_nil ?_
              obtain rfl := Option.some.inj hF
              exact ⟨rfl, ⟨ok, E.keep [1, 2, 5, 101]⟩⟩
            replace hF := cond_f hc71 hF
            replace E := E.upd 96 hc71 rfl
            iterate 3 refine l_skip E rfl rfl fun a E => ?_
            refine l_val E ok (y_pickF rfl rfl) rfl rfl fun a E => ?_
            refine l_val E ok (y_pickF rfl rfl) rfl rfl fun a E => ?_
            refine wpList_nil ?_
            obtain rfl := Option.some.inj hF
            exact ⟨rfl, ⟨ok, E.keep [1, 2, 5, 101]⟩⟩
          replace hF := cond_t hc66 hF
          replace E := E.upd 82 hc66 rfl
          refine l_val E ok (y_move rfl) rfl rfl fun a E => ?_
          refine l_val E ok (y_not rfl) rfl rfl fun a E => ?_
          refine l_val E ok (y_pickT rfl rfl) rfl rfl fun a E => ?_
          refine l_val E ok (y_move rfl) rfl rfl fun a E => ?_
          refine bsplit (!true) (fun hc67 => ?_) (fun hc67 => ?_)
          rotate_left
          · replace hF := cond_f hc67 hF
            replace E := E.upd 86 hc67 rfl
            iterate 3 refine l_skip E rfl rfl fun a E => ?_
            refine l_val E ok (y_pickF rfl rfl) rfl rfl fun a E => ?_
            refine l_val E ok (y_pickF rfl rfl) rfl rfl fun a E => ?_
            refine l_val E ok (y_move rfl) rfl rfl fun a E => ?_
            refine l_val E ok (y_fieldAddr fo_35_0 rfl) rfl rfl fun a E => ?_
            refine l_val E ok (y_load one_3 rfl (Holds.own 0 rfl rfl)) rfl rfl fun a E => ?_
            refine l_val E ok (y_neq rfl rfl) rfl rfl fun a E => ?_
            refine l_val E ok (y_move rfl) rfl rfl fun a E => ?_
            refine bsplit (x8.Op != 10) (fun hc70 => ?_) (fun hc70 => ?_)
            · replace hF := cond_t hc70 hF
              replace E := E.upd 96 hc70 rfl
              refine l_val E ok (y_fieldAddr fo_35_2 rfl) rfl rfl fun a E => ?_
              refine l_val E ok (y_load one_3 rfl (Holds.own 0 rfl rfl)) rfl rfl fun a E => ?_
              refine l_val E ok (y_neq rfl rfl) rfl rfl fun a E => ?_
              refine l_val E ok (y_pickT rfl rfl) rfl rfl fun a E => ?_
              refine l_val E ok (y_pickF rfl rfl) rfl rfl fun a E => ?_
              refine wpList_nil ?_
              obtain rfl := Option.some.inj hF
              exact ⟨rfl, ⟨ok, E.keep [1, 2, 5, 101]⟩⟩
            replace hF := cond_f hc70 hF
            replace E := E.upd 96 hc70 rfl
            iterate 3 refine l_skip E rfl rfl fun a E => ?_
            refine l_val E ok (y_pickF rfl rfl) rfl rfl fun a E => ?_
            refine l_val E ok (y_pickF rfl rfl) rfl rfl fun a E => ?_
            refine wpList_nil ?_
            obtain rfl := Option.some.inj hF
            exact ⟨rfl, ⟨ok, E.keep [1, 2, 5, 101]⟩⟩
          replace hF := cond_t hc67 hF
          replace E := E.upd 86 hc67 rfl
          refine l_val E ok (y_fieldAddr fo_35_1 rfl) rfl rfl fun a E => ?_
          refine l_val E ok (y_load one_3 rfl (Holds.own 0 rfl rfl)) rfl rfl fun a E => ?_
          refine l_val E ok (y_neq rfl rfl) rfl rfl fun a E => ?_
          refine l_val E ok (y_pickT rfl rfl) rfl rfl fun a E => ?_
          refine l_val E ok (y_pickF rfl rfl) rfl rfl fun a E => ?_
          refine l_val E ok (y_move rfl) rfl rfl fun a E => ?_
          refine bsplit (x8.A != 0) (fun hc68 => ?_) (fun hc68 => ?_)
          · replace hF := cond_t hc68 hF
            replace E := E.upd 92 hc68 rfl
            iterate 8 refine l_skip E rfl rfl fun a E => ?_
            refine l_val E ok (y_pickT rfl rfl) rfl rfl fun a E => ?_
            refine wpList_nil ?_
            obtain rfl := Option.some.inj hF
            exact ⟨rfl, ⟨ok, E.keep [1, 2, 5, 101]⟩⟩
          replace hF := cond_f hc68 hF
          replace E := E.upd 92 hc68 rfl
          refine l_val E ok (y_fieldAddr fo_35_0 rfl) rfl rfl fun a E => ?_
          refine l_val E ok (y_load one_3 rfl (Holds.own 0 rfl rfl)) rfl rfl fun a E => ?_
          refine l_val E ok (y_neq rfl rfl) rfl rfl fun a E => ?_
          refine l_val E ok (y_move rfl) rfl rfl fun a E => ?_
          refine bsplit (x8.Op != 10) (fun hc69 => ?_) (fun hc69 => ?_)
          · replace hF := cond_t hc69 hF
            replace E := E.upd 96 hc69 rfl
            refine l_val E ok (y_fieldAddr fo_35_2 rfl) rfl rfl fun a E => ?_
            refine l_val E ok (y_load one_3 rfl (Holds.own 0 rfl rfl)) rfl rfl fun a E => ?_
            refine l_val E ok (y_neq rfl rfl) rfl rfl fun a E => ?_
            refine l_val E ok (y_pickT rfl rfl) rfl rfl fun a E => ?_
            refine l_val E ok (y_pickF rfl rfl) rfl rfl fun a E => ?_
            refine wpList_nil ?_
            obtain rfl := Option.some.inj hF
            exact ⟨rfl, ⟨ok, E.keep [1, 2, 5, 101]⟩⟩
          replace hF := cond_f hc69 hF
          replace E := E.upd 96 hc69 rfl
          iterate 3 refine l_skip E rfl rfl fun a E => ?_
          refine l_val E ok (y_pickF rfl rfl) rfl rfl fun a E => ?_
          refine l_val E ok (y_pickF rfl rfl) rfl rfl fun a E => ?_
          refine wpList_nil ?_
          obtain rfl := Option.some.inj hF
          exact ⟨rfl, ⟨ok, E.keep [1, 2, 5, 101]⟩⟩
      replace hF := cond_t hc25 hF
      replace E := E.upd 39 hc25 rfl
      refine l_val E ok (y_fieldAddr fo_35_1 rfl) rfl rfl fun a E => ?_
      refine l_val E ok (y_load one_3 rfl (Holds.own 0 rfl rfl)) rfl rfl fun a E => ?_
      refine l_val E ok (y_lss rfl rfl) rfl rfl fun a E => ?_
      refine l_val E ok (y_move rfl) rfl rfl fun a E => ?_
      refine bsplit (decide (x8.A < 0)) (fun hc26 => ?_) (fun hc26 => ?_)
      · replace hF := cond_t hc26 hF
        replace E := E.upd 43 hc26 rfl
        iterate 6 refine l_skip E rfl rfl fun a E => ?_
        refine l_val E ok (y_pickT rfl rfl) rfl rfl fun a E => ?_
        refine l_val E ok (y_pickT rfl rfl) rfl rfl fun a E => ?_
        refine l_val E ok (y_move rfl) rfl rfl fun a E => ?_
        iterate 25 refine l_skip E rfl rfl fun a E => ?_
        refine l_val E ok (y_pickT rfl rfl) rfl rfl fun a E => ?_
        refine l_val E ok (y_move rfl) rfl rfl fun a E => ?_
        iterate 11 refine l_skip E rfl rfl fun a E => ?_
        refine l_val E ok (y_pickT rfl rfl) rfl rfl fun a E => ?_
        refine l_val E ok (y_move rfl) rfl rfl fun a E => ?_
        iterate 8 refine l_skip E rfl rfl fun a E => ?_
        refine l_val E ok (y_pickT rfl rfl) rfl rfl fun a E => ?_
        refine wpList_nil ?_
        obtain rfl := Option.some.inj hF
        exact ⟨rfl, ⟨ok, E.keep [1, 2, 5, 101]⟩⟩
      replace hF := cond_f hc26 hF
      replace E := E.upd 43 hc26 rfl
      refine l_val E ok (y_fieldAddr fo_35_1 rfl) rfl rfl fun a E => ?_
      refine l_val E ok (y_load one_3 rfl (Holds.own 0 rfl rfl)) rfl rfl fun a E => ?_
      refine l_val E ok (y_fieldAddr fo_25_0 rfl) rfl rfl fun a E => ?_
      refine l_val E ok (y_load one_22 rfl (Holds.own 1 rfl rfl)) rfl rfl fun a E => ?_
      refine l_val E ok (y_lenL sl_22 h2 rfl) rfl rfl fun a E => ?_
      refine l_val E ok (y_geq rfl rfl) rfl rfl fun a E => ?_
      refine l_val E ok (y_pickF rfl rfl) rfl rfl fun a E => ?_
      refine l_val E ok (y_pickT rfl rfl) rfl rfl fun a E => ?_
      refine l_val E ok (y_move rfl) rfl rfl fun a E => ?_
      refine bsplit (decide (x8.A ≥ (c_0.Names.length : Int))) (fun hc27 => ?_) (fun hc27 => ?_)
      · replace hF := cond_t hc27 hF
        replace E := E.upd 52 hc27 rfl
        iterate 25 refine l_skip E rfl rfl fun a E => ?_
        refine l_val E ok (y_pickT rfl rfl) rfl rfl fun a E => ?_
        refine l_val E ok (y_move rfl) rfl rfl fun a E => ?_
        iterate 11 refine l_skip E rfl rfl fun a E => ?_
        refine l_val E ok (y_pickT rfl rfl) rfl rfl fun a E => ?_
        refine l_val E ok (y_move rfl) rfl rfl fun a E => ?_
        iterate 8 refine l_skip E rfl rfl fun a E => ?_
        refine l_val E ok (y_pickT rfl rfl) rfl rfl fun a E => ?_
        refine wpList_nil ?_
        obtain rfl := Option.some.inj hF
        exact ⟨rfl, ⟨ok, E.keep [1, 2, 5, 101]⟩⟩
      replace hF := cond_f hc27 hF
      replace E := E.upd 52 hc27 rfl
      refine l_val E ok (y_move rfl) rfl rfl fun a E => ?_
      refine l_val E ok (y_move rfl) rfl rfl fun a E => ?_
      refine l_val E ok (y_fieldAddr fo_35_1 rfl) rfl rfl fun a E => ?_
      refine l_val E ok (y_load one_3 rfl (Holds.own 0 rfl rfl)) rfl rfl fun a E => ?_
      refine l_val E ok (y_move rfl) rfl rfl fun a E => ?_
      refine l_val E ok (y_leq rfl rfl) rfl rfl fun a E => ?_
      refine l_val E ok (y_move rfl) rfl rfl fun a E => ?_
      refine bsplit (decide (x8.A ≤ i_1)) (fun hc28 => ?_) (fun hc28 => ?_)
      · replace hF := cond_t hc28 hF
        replace E := E.upd 59 hc28 rfl
        iterate 6 refine l_skip E rfl rfl fun a E => ?_
        refine l_val E ok (y_pickT rfl rfl) rfl rfl fun a E => ?_
        refine l_val E ok (y_move rfl) rfl rfl fun a E => ?_
        iterate 8 refine l_skip E rfl rfl fun a E => ?_
        refine l_val E ok (y_pickT rfl rfl) rfl rfl fun a E => ?_
        refine l_val E ok (y_pickT rfl rfl) rfl rfl fun a E => ?_
        refine l_val E ok (y_pickF rfl rfl) rfl rfl fun a E => ?_
        refine l_val E ok (y_move rfl) rfl rfl fun a E => ?_
        iterate 11 refine l_skip E rfl rfl fun a E => ?_
        refine l_val E ok (y_pickT rfl rfl) rfl rfl fun a E => ?_
        refine l_val E ok (y_move rfl) rfl rfl fun a E => ?_
        iterate 8 refine l_skip E rfl rfl fun a E => ?_
        refine l_val E ok (y_pickT rfl rfl) rfl rfl fun a E => ?_
        refine wpList_nil ?_
        obtain rfl := Option.some.inj hF
        exact ⟨rfl, ⟨ok, E.keep [1, 2, 5, 101]⟩⟩
      replace hF := cond_f hc28 hF
      replace E := E.upd 59 hc28 rfl
      refine l_val E ok (y_fieldAddr fo_35_1 rfl) rfl rfl fun a E => ?_
      refine l_val E ok (y_load one_3 rfl (Holds.own 0 rfl rfl)) rfl rfl fun a E => ?_
      refine l_val E ok (y_fieldAddr fo_25_1 rfl) rfl rfl fun a E => ?_
      refine l_val E ok (y_load one_23 rfl (Holds.own 1 rfl rfl)) rfl rfl fun a E => ?_
      refine l_val E ok (y_lenL sl_23 h4 rfl) rfl rfl fun a E => ?_
      refine l_val E ok (y_geq rfl rfl) rfl rfl fun a E => ?_
      refine l_val E ok (y_pickF rfl rfl) rfl rfl fun a E => ?_
      refine l_val E ok (y_move rfl) rfl rfl fun a E => ?_
      refine bsplit (decide (x8.A ≥ (c_0.Ins.length : Int))) (fun hc29 => ?_) (fun hc29 => ?_)
      · replace hF := cond_t hc29 hF
        replace E := E.upd 67 hc29 rfl
        iterate 8 refine l_skip E rfl rfl fun a E => ?_
        refine l_val E ok (y_pickT rfl rfl) rfl rfl fun a E => ?_
        refine l_val E ok (y_pickT rfl rfl) rfl rfl fun a E => ?_
        refine l_val E ok (y_pickF rfl rfl) rfl rfl fun a E => ?_
        refine l_val E ok (y_move rfl) rfl rfl fun a E => ?_
        iterate 11 refine l_skip E rfl rfl fun a E => ?_
        refine l_val E ok (y_pickT rfl rfl) rfl rfl fun a E => ?_
        refine l_val E ok (y_move rfl) rfl rfl fun a E => ?_
        iterate 8 refine l_skip E rfl rfl fun a E => ?_
        refine l_val E ok (y_pickT rfl rfl) rfl rfl fun a E => ?_
        refine wpList_nil ?_
        obtain rfl := Option.some.inj hF
        exact ⟨rfl, ⟨ok, E.keep [1, 2, 5, 101]⟩⟩
      replace hF := cond_f hc29 hF
      replace E := E.upd 67 hc29 rfl
      refine l_val E ok (y_fieldAddr fo_25_1 rfl) rfl rfl fun a E => ?_
      refine l_val E ok (y_load one_23 rfl (Holds.own 1 rfl rfl)) rfl rfl fun a E => ?_
      refine l_val E ok (y_fieldAddr fo_35_1 rfl) rfl rfl fun a E => ?_
      refine l_val E ok (y_load one_3 rfl (Holds.own 0 rfl rfl)) rfl rfl fun a E => ?_
      obtain ⟨x30, e31, hF⟩ := bnd hF
      obtain ⟨b32, o33, es34, hl35, rr36, at37, yy38⟩ := idxAt sl_23 h4 e31 (P := Tryd.prog) (X := .tmp 69) (I := .tmp 71) (kd := .i64) (ev_of E rfl) (ev_of E rfl)
      obtain ⟨rfl, r39, r40, r41, l42⟩ := rr36
      refine l_val E ok (yy38 _ _) rfl rfl fun a E => ?_
      refine l_val E ok (y_fieldAddr fo_35_0 rfl) rfl rfl fun a E => ?_
      refine l_val E ok (y_load one_3 rfl (Holds.ro (At.sub 0 1 at37))) rfl rfl fun a E => ?_
      refine l_val E ok (y_eql rfl rfl) rfl rfl fun a E => ?_
      refine l_val E ok (y_pickF rfl rfl) rfl rfl fun a E => ?_
      refine l_val E ok (y_pickT rfl rfl) rfl rfl fun a E => ?_
      refine l_val E ok (y_pickF rfl rfl) rfl rfl fun a E => ?_
      refine l_val E ok (y_move rfl) rfl rfl fun a E => ?_
      refine bsplit (x30.Op == 11) (fun hc43 => ?_) (fun hc43 => ?_)
      · replace hF := cond_t hc43 hF
        replace E := E.upd 79 hc43 rfl
        iterate 11 refine l_skip E rfl rfl fun a E => ?_
        refine l_val E ok (y_pickT rfl rfl) rfl rfl fun a E => ?_
        refine l_val E ok (y_move rfl) rfl rfl fun a E => ?_
        iterate 8 refine l_skip E rfl rfl fun a E => ?_
        refine l_val E ok (y_pickT rfl rfl) rfl rfl fun a E => ?_
        refine wpList_nil ?_
        obtain rfl := Option.some.inj hF
        exact ⟨rfl, ⟨ok, E.keep [1, 2, 5, 101]⟩⟩
      replace hF := cond_f hc43 hF
      replace E := E.upd 79 hc43 rfl
      refine l_val E ok (y_move rfl) rfl rfl fun a E => ?_
      refine l_val E ok (y_not rfl) rfl rfl fun a E => ?_
      refine l_val E ok (y_move rfl) rfl rfl fun a E => ?_
      refine bsplit (!(decide (x8.Op ≤ 10))) (fun hc44 => ?_) (fun hc44 => ?_)
      rotate_left
      · replace hF := cond_f hc44 hF
        replace E := E.upd 82 hc44 rfl
        iterate 2 refine l_skip E rfl rfl fun a E => ?_
        refine l_val E ok (y_pickF rfl rfl) rfl rfl fun a E => ?_
        refine l_val E ok (y_move rfl) rfl rfl fun a E => ?_
        iterate 3 refine l_skip E rfl rfl fun a E => ?_
        refine l_val E ok (y_pickF rfl rfl) rfl rfl fun a E => ?_
        refine l_val E ok (y_pickF rfl rfl) rfl rfl fun a E => ?_
        refine l_val E ok (y_move rfl) rfl rfl fun a E => ?_
        refine l_val E ok (y_fieldAddr fo_35_0 rfl) rfl rfl fun a E => ?_
        refine l_val E ok (y_load one_3 rfl (Holds.own 0 rfl rfl)) rfl rfl fun a E => ?_
        refine l_val E ok (y_neq rfl rfl) rfl rfl fun a E => ?_
        refine l_val E ok (y_move rfl) rfl rfl fun a E => ?_
        refine bsplit (x8.Op != 10) (fun hc49 => ?_) (fun hc49 => ?_)
        · replace hF := cond_t hc49 hF
          replace E := E.upd 96 hc49 rfl
          refine l_val E ok (y_fieldAddr fo_35_2 rfl) rfl rfl fun a E => ?_
          refine l_val E ok (y_load one_3 rfl (Holds.own 0 rfl rfl)) rfl rfl fun a E => ?_
          refine l_val E ok (y_neq rfl rfl) rfl rfl fun a E => ?_
          refine l_val E ok (y_pickT rfl rfl) rfl rfl fun a E => ?_
          refine l_val E ok (y_pickF rfl rfl) rfl rfl fun a E => ?_
          refine wpList_nil ?_
          obtain rfl := Option.some.inj hF
          exact ⟨rfl, ⟨ok, E.keep [1, 2, 5, 101]⟩⟩
        replace hF := cond_f hc49 hF
        replace E := E.upd 96 hc49 rfl
        iterate 3 refine l_skip E rfl rfl fun a E => ?_
        refine l_val E ok (y_pickF rfl rfl) rfl rfl fun a E => ?_
        refine l_val E ok (y_pickF rfl rfl) rfl rfl fun a E => ?_
        refine wpList_nil ?_
        obtain rfl := Option.some.inj hF
        exact ⟨rfl, ⟨ok, E.keep [1, 2, 5, 101]⟩⟩
      replace hF := cond_t hc44 hF
      replace E := E.upd 82 hc44 rfl
      refine l_val E ok (y_move rfl) rfl rfl fun a E => ?_
      refine l_val E ok (y_not rfl) rfl rfl fun a E => ?_
      refine l_val E ok (y_pickT rfl rfl) rfl rfl fun a E => ?_
      refine l_val E ok (y_move rfl) rfl rfl fun a E => ?_
      refine bsplit (!true) (fun hc45 => ?_) (fun hc45 => ?_)
      rotate_left
      · replace hF := cond_f hc45 hF
        replace E := E.upd 86 hc45 rfl
        iterate 3 refine l_skip E rfl rfl fun a E => ?_
        refine l_val E ok (y_pickF rfl rfl) rfl rfl fun a E => ?_
        refine l_val E ok (y_pickF rfl rfl) rfl rfl fun a E => ?_
        refine l_val E ok (y_move rfl) rfl rfl fun a E => ?_
        refine l_val E ok (y_fieldAddr fo_35_0 rfl) rfl rfl fun a E => ?_
        refine l_val E ok (y_load one_3 rfl (Holds.own 0 rfl rfl)) rfl rfl fun a E => ?_
        refine l_val E ok (y_neq rfl rfl) rfl rfl fun a E => ?_
        refine l_val E ok (y_move rfl) rfl rfl fun a E => ?_
        refine bsplit (x8.Op != 10) (fun hc48 => ?_) (fun hc48 => ?_)
        · replace hF := cond_t hc48 hF
          replace E := E.upd 96 hc48 rfl
          refine l_val E ok (y_fieldAddr fo_35_2 rfl) rfl rfl fun a E => ?_
          refine l_val E ok (y_load one_3 rfl (Holds.own 0 rfl rfl)) rfl rfl fun a E => ?_
          refine l_val E ok (y_neq rfl rfl) rfl rfl fun a E => ?_
          refine l_val E ok (y_pickT rfl rfl) rfl rfl fun a E => ?_
          refine l_val E ok (y_pickF rfl rfl) rfl rfl fun a E => ?_
          refine wpList_nil ?_
          obtain rfl := Option.some.inj hF
          exact ⟨rfl, ⟨ok, E.keep [1, 2, 5, 101]⟩⟩
        replace hF := cond_f hc48 hF
        replace E := E.upd 96 hc48 rfl
        iterate 3 refine l_skip E rfl rfl fun a E => ?_
        refine l_val E ok (y_pickF rfl rfl) rfl rfl fun a E => ?_
        refine l_val E ok (y_pickF rfl rfl) rfl rfl fun a E => ?_
        refine wpList_nil ?_
        obtain rfl := Option.some.inj hF
        exact ⟨rfl, ⟨ok, E.keep [1, 2, 5, 101]⟩⟩
      replace hF := cond_t hc45 hF
      replace E := E.upd 86 hc45 rfl
      refine l_val E ok (y_fieldAddr fo_35_1 rfl) rfl rfl fun a E => ?_
      refine l_val E ok (y_load one_3 rfl (Holds.own 0 rfl rfl)) rfl rfl fun a E => ?_
      refine l_val E ok (y_neq rfl rfl) rfl rfl fun a E => ?_
      refine l_val E ok (y_pickT rfl rfl) rfl rfl fun a E => ?_
      refine l_val E ok (y_pickF rfl rfl) rfl rfl fun a E => ?_
      refine l_val E ok (y_move rfl) rfl rfl fun a E => ?_
      refine bsplit (x8.A != 0) (fun hc46 => ?_) (fun hc46 => ?_)
      · replace hF := cond_t hc46 hF
        replace E := E.upd 92 hc46 rfl
        iterate 8 refine l_skip E rfl rfl fun a E => ?_
        refine l_val E ok (y_pickT rfl rfl) rfl rfl fun a E => ?_
        refine wpList_nil ?_
        obtain rfl := Option.some.inj hF
        exact ⟨rfl, ⟨ok, E.keep [1, 2, 5, 101]⟩⟩
      replace hF := cond_f hc46 hF
      replace E := E.upd 92 hc46 rfl
      refine l_val E ok (y_fieldAddr fo_35_0 rfl) rfl rfl fun a E => ?_
      refine l_val E ok (y_load one_3 rfl (Holds.own 0 rfl rfl)) rfl rfl fun a E => ?_
      refine l_val E ok (y_neq rfl rfl) rfl rfl fun a E => ?_
      refine l_val E ok (y_move rfl) rfl rfl fun a E => ?_
      refine bsplit (x8.Op != 10) (fun hc47 => ?_) (fun hc47 => ?_)
      · replace hF := cond_t hc47 hF
        replace E := E.upd 96 hc47 rfl
        refine l_val E ok (y_fieldAddr fo_35_2 rfl) rfl rfl fun a E => ?_
        refine l_val E ok (y_load one_3 rfl (Holds.own 0 rfl rfl)) rfl rfl fun a E => ?_
        refine l_val E ok (y_neq rfl rfl) rfl rfl fun a E => ?_
        refine l_val E ok (y_pickT rfl rfl) rfl rfl fun a E => ?_
        refine l_val E ok (y_pickF rfl rfl) rfl rfl fun a E => ?_
        refine wpList_nil ?_
        obtain rfl := Option.some.inj hF
        exact ⟨rfl, ⟨ok, E.keep [1, 2, 5, 101]⟩⟩
      replace hF := cond_f hc47 hF
      replace E := E.upd 96 hc47 rfl
      iterate 3 refine l_skip E rfl rfl fun a E => ?_
      refine l_val E ok (y_pickF rfl rfl) rfl rfl fun a E => ?_
      refine l_val E ok (y_pickF rfl rfl) rfl rfl fun a E => ?_
      refine wpList_nil ?_
      obtain rfl := Option.some.inj hF
      exact ⟨rfl, ⟨ok, E.keep [1, 2, 5, 101]⟩⟩
  replace hF := cond_f hc23 hF
  replace E := E.upd 33 hc23 rfl
  refine l_val E ok (y_fieldAddr fo_35_0 rfl) rfl rfl fun a E => ?_
  refine l_val E ok (y_load one_3 rfl (Holds.own 0 rfl rfl)) rfl rfl fun a E => ?_
  refine l_val E ok (y_eql rfl rfl) rfl rfl fun a E => ?_
  refine l_val E ok (y_pickF rfl rfl) rfl rfl fun a E => ?_
  refine l_val E ok (y_assign rfl) rfl rfl fun a E => ?_
  refine wpList_nil ?_
  refine t_norm ?_
  refine wp_seq ?_
  refine wp_seq ?_
  obtain ⟨o129, hJ, hF⟩ := bnd hF
  refine c_mono (Q' := fun e a w => e = .normal ∧ Ok u m0 ([(b21, Obj.cells [(Value.int .i64 x8.Op), (Value.int .i64 x8.A), (Value.int .i64 x8.B), (Value.string (bs x8.S))].toArray 35 (0, 0))] :: [(b5, Obj.cells [c1, c3].toArray 25 (0, 0))] :: S) w ∧ Env 196 a [(1, (Value.int .i64 i_1)), (2, (Value.pointer (some ⟨b5, 0, none⟩))), (5, (Value.pointer (some ⟨b21, 0, none⟩))), (101, (Value.bool o129))]) ?_ ?_
  rotate_left
  · as_aux_lemma =>
      clear hJ
      intro e a w hO
      obtain ⟨rfl, ok, E⟩ := hO
      refine t_norm ?_
      refine c_if E rfl (fun hc191 => ?_) (fun hc191 => ?_)
      · replace hF := cond_t hc191 hF
        refine wp_seq ?_
        refine c_region ?_
        refine l_val E ok (y_assign rfl) rfl rfl fun a E => ?_
        refine wpList_nil ?_
        refine t_norm ?_
        refine wp_ret ?_
        refine t_ret ?_
        have hret : calqueref34_Proper_R u m0 S false a w := ⟨ok.drop.drop, E.d, ⟨rv_t E rfl, trivial⟩⟩
        obtain rfl := Option.some.inj hF
        exact fin _ _ hret
      replace hF := cond_f hc191 hF
      refine wp_skip ?_
      refine t_norm ?_
      refine wp_seq ?_
      refine wp_seq ?_
      refine c_region ?_
      refine l_val E ok (y_fieldAddr fo_35_0 rfl) rfl rfl fun a E => ?_
      refine l_val E ok (y_load one_3 rfl (Holds.own 0 rfl rfl)) rfl rfl fun a E => ?_
      refine wpList_nil ?_
      refine t_norm ?_
      refine wp_block ?_
      refine wp_seq ?_
      refine c_region ?_
      refine l_val E ok (y_eql rfl rfl) rfl rfl fun a E => ?_
      refine l_val E ok (y_assign rfl) rfl rfl fun a E => ?_
      refine wpList_nil ?_
      refine t_norm ?_
      refine c_if E rfl (fun hc192 => ?_) (fun hc192 => ?_)
      · replace hF := cond_t hc192 hF
        refine wp_seq ?_
        refine c_region ?_
        refine l_val E ok (y_fieldAddr fo_35_3 rfl) rfl rfl fun a E => ?_
        refine l_val E ok (y_load one_9 rfl (Holds.own 0 rfl rfl)) rfl rfl fun a E => ?_
        refine l_val E ok (y_sneq rfl rfl) rfl rfl fun a E => ?_
        refine l_val E ok (y_assign rfl) rfl rfl fun a E => ?_
        refine wpList_nil ?_
        refine t_norm ?_
        refine wp_ret ?_
        refine b_ret ?_
        refine t_ret ?_
        have hret : calqueref34_Proper_R u m0 S (x8.S != ([])) a w := ⟨ok.drop.drop, E.d, ⟨rv_t E rfl, trivial⟩⟩
        obtain rfl := Option.some.inj hF
        exact fin _ _ hret
      replace hF := cond_f hc192 hF
      refine wp_seq ?_
      refine wp_seq ?_
      refine c_region ?_
      refine l_val E ok (y_eql rfl rfl) rfl rfl fun a E => ?_
      refine l_val E ok (y_assign rfl) rfl rfl fun a E => ?_
      refine wpList_nil ?_
      refine t_norm ?_
      obtain ⟨o193, hJ, hF⟩ := bnd hF
      refine c_mono (Q' := fun e a w => e = .normal ∧ Ok u m0 ([(b21, Obj.cells [(Value.int .i64 x8.Op), (Value.int .i64 x8.A), (Value.int .i64 x8.B), (Value.string (bs x8.S))].toArray 35 (0, 0))] :: [(b5, Obj.cells [c1, c3].toArray 25 (0, 0))] :: S) w ∧ Env 196 a [(1, (Value.int .i64 i_1)), (2, (Value.pointer (some ⟨b5, 0, none⟩))), (5, (Value.pointer (some ⟨b21, 0, none⟩))), (103, (Value.int .i64 x8.Op)), (109, (Value.bool o193))]) ?_ ?_
      · replace hF := hJ
        clear hJ
        refine c_if E rfl (fun hc194 => ?_) (fun hc194 => ?_)
        · replace hF := cond_t hc194 hF
          refine wp_skip ?_
          obtain rfl := Option.some.inj hF
          exact ⟨rfl, ⟨ok, E.keep [1, 2, 5, 103, 109]⟩⟩
        replace hF := cond_f hc194 hF
        refine wp_seq ?_
        refine c_region ?_
        refine l_val E ok (y_eql rfl rfl) rfl rfl fun a E => ?_
        refine l_val E ok (y_assign rfl) rfl rfl fun a E => ?_
        refine wpList_nil ?_
        refine t_norm ?_
        refine c_if E rfl (fun hc195 => ?_) (fun hc195 => ?_)
        · replace hF := cond_t hc195 hF
          refine wp_skip ?_
          obtain rfl := Option.some.inj hF
          exact ⟨rfl, ⟨ok, E.keep [1, 2, 5, 103, 109]⟩⟩
        replace hF := cond_f hc195 hF
        refine wp_seq ?_
        refine c_region ?_
        refine l_val E ok (y_eql rfl rfl) rfl rfl fun a E => ?_
        refine l_val E ok (y_assign rfl) rfl rfl fun a E => ?_
        refine wpList_nil ?_
        refine t_norm ?_
        refine c_if E rfl (fun hc196 => ?_) (fun hc196 => ?_)
        · replace hF := cond_t hc196 hF
          refine wp_skip ?_
          obtain rfl := Option.some.inj hF
          exact ⟨rfl, ⟨ok, E.keep [1, 2, 5, 103, 109]⟩⟩
        replace hF := cond_f hc196 hF
        refine wp_seq ?_
        refine c_region ?_
        refine l_val E ok (y_eql rfl rfl) rfl rfl fun a E => ?_
        refine l_val E ok (y_assign rfl) rfl rfl fun a E => ?_
        refine wpList_nil ?_
        refine t_norm ?_
        refine c_if E rfl (fun hc197 => ?_) (fun hc197 => ?_)
        · replace hF := cond_t hc197 hF
          refine wp_skip ?_
          obtain rfl := Option.some.inj hF
          exact ⟨rfl, ⟨ok, E.keep [1, 2, 5, 103, 109]⟩⟩
        replace hF := cond_f hc197 hF
        refine c_region ?_
        refine l_val E ok (y_eql rfl rfl) rfl rfl fun a E => ?_
        refine l_val E ok (y_assign rfl) rfl rfl fun a E => ?_
        refine wpList_nil ?_
        obtain rfl := Option.some.inj hF
        exact ⟨rfl, ⟨ok, E.keep [1, 2, 5, 103, 109]⟩⟩
      clear hJ
      intro e a w hO
      obtain ⟨rfl, ok, E⟩ := hO
      refine t_norm ?_
      refine c_if E rfl (fun hc198 => ?_) (fun hc198 => ?_)
      · replace hF := cond_t hc198 hF
        refine wp_seq ?_
        refine c_region ?_
        refine l_val E ok (y_fieldAddr fo_35_3 rfl) rfl rfl fun a E => ?_
        refine l_val E ok (y_load one_9 rfl (Holds.own 0 rfl rfl)) rfl rfl fun a E => ?_
        obtain ⟨r199, e200, hF⟩ := bnd hF
        refine l_call E go_23 rfl (calqueref25_Name_w N x8.S l20 e200 hG ok) rfl rfl ?_
        rintro _ w ⟨rfl, ok⟩
        refine ⟨_, rfl, fun a E => ?_⟩
        refine l_val E ok (y_assign rfl) rfl rfl fun a E => ?_
        refine wpList_nil ?_
        refine t_norm ?_
        refine wp_ret ?_
        refine b_ret ?_
        refine t_ret ?_
        have hret : calqueref34_Proper_R u m0 S r199 a w := ⟨ok.drop.drop, E.d, ⟨rv_t E rfl, trivial⟩⟩
        obtain rfl := Option.some.inj hF
        exact fin _ _ hret
      replace hF := cond_f hc198 hF
      refine wp_seq ?_
      refine c_region ?_
      refine l_val E ok (y_eql rfl rfl) rfl rfl fun a E => ?_
      refine l_val E ok (y_assign rfl) rfl rfl fun a E => ?_
      refine wpList_nil ?_
      refine t_norm ?_
      refine c_if E rfl (fun hc201 => ?_) (fun hc201 => ?_)
      · replace hF := cond_t hc201 hF
        refine wp_seq ?_
        refine c_region ?_
        refine l_val E ok (y_fieldAddr fo_35_3 rfl) rfl rfl fun a E => ?_
        refine l_val E ok (y_load one_9 rfl (Holds.own 0 rfl rfl)) rfl rfl fun a E => ?_
        refine l_val E ok (y_seql rfl rfl) rfl rfl fun a E => ?_
        refine l_val E ok (y_move rfl) rfl rfl fun a E => ?_
        refine bsplit (x8.S == ([])) (fun hc202 => ?_) (fun hc202 => ?_)
        · replace hF := cond_t hc202 hF
          replace E := E.upd 123 hc202 rfl
          iterate 3 refine l_skip E rfl rfl fun a E => ?_
          refine l_val E ok (y_pickT rfl rfl) rfl rfl fun a E => ?_
          refine l_val E ok (y_move rfl) rfl rfl fun a E => ?_
          iterate 3 refine l_skip E rfl rfl fun a E => ?_
          refine l_val E ok (y_pickT rfl rfl) rfl rfl fun a E => ?_
          refine l_val E ok (y_assign rfl) rfl rfl fun a E => ?_
          refine wpList_nil ?_
          refine t_norm ?_
          refine wp_ret ?_
          refine b_ret ?_
          refine t_ret ?_
          have hret : calqueref34_Proper_R u m0 S true a w := ⟨ok.drop.drop, E.d, ⟨rv_t E rfl, trivial⟩⟩
          obtain rfl := Option.some.inj hF
          exact fin _ _ hret
        replace hF := cond_f hc202 hF
        replace E := E.upd 123 hc202 rfl
        refine l_val E ok (y_fieldAddr fo_35_3 rfl) rfl rfl fun a E => ?_
        refine l_val E ok (y_load one_9 rfl (Holds.own 0 rfl rfl)) rfl rfl fun a E => ?_
        refine l_val E ok (y_seql rfl rfl) rfl rfl fun a E => ?_
        refine l_val E ok (y_pickF rfl rfl) rfl rfl fun a E => ?_
        refine l_val E ok (y_move rfl) rfl rfl fun a E => ?_
        refine bsplit (x8.S == ([105, 110, 116, 101, 103, 101, 114])) (fun hc203 => ?_) (fun hc203 => ?_)
        · replace hF := cond_t hc203 hF
          replace E := E.upd 128 hc203 rfl
          iterate 3 refine l_skip E rfl rfl fun a E => ?_
          refine l_val E ok (y_pickT rfl rfl) rfl rfl fun a E => ?_
          refine l_val E ok (y_assign rfl) rfl rfl fun a E => ?_
          refine wpList_nil ?_
          refine t_norm ?_
          refine wp_ret ?_
          refine b_ret ?_
          refine t_ret ?_
          have hret : calqueref34_Proper_R u m0 S true a w := ⟨ok.drop.drop, E.d, ⟨rv_t E rfl, trivial⟩⟩
          obtain rfl := Option.some.inj hF
          exact fin _ _ hret
        replace hF := cond_f hc203 hF
        replace E := E.upd 128 hc203 rfl
        refine l_val E ok (y_fieldAddr fo_35_3 rfl) rfl rfl fun a E => ?_
        refine l_val E ok (y_load one_9 rfl (Holds.own 0 rfl rfl)) rfl rfl fun a E => ?_
        refine l_val E ok (y_seql rfl rfl) rfl rfl fun a E => ?_
        refine l_val E ok (y_pickF rfl rfl) rfl rfl fun a E => ?_
        refine l_val E ok (y_assign rfl) rfl rfl fun a E => ?_
        refine wpList_nil ?_
        refine t_norm ?_
        refine wp_ret ?_
        refine b_ret ?_
        refine t_ret ?_
        have hret : calqueref34_Proper_R u m0 S (x8.S == ([112, 101, 114, 99, 101, 110, 116])) a w := ⟨ok.drop.drop, E.d, ⟨rv_t E rfl, trivial⟩⟩
        obtain rfl := Option.some.inj hF
        exact fin _ _ hret
      replace hF := cond_f hc201 hF
      refine wp_seq ?_
      refine c_region ?_
      refine l_val E ok (y_eql rfl rfl) rfl rfl fun a E => ?_
      refine l_val E ok (y_assign rfl) rfl rfl fun a E => ?_
      refine wpList_nil ?_
      refine t_norm ?_
      refine c_if E rfl (fun hc204 => ?_) (fun hc204 => ?_)
      · replace hF := cond_t hc204 hF
        refine wp_seq ?_
        refine c_region ?_
        refine l_val E ok (y_fieldAddr fo_35_3 rfl) rfl rfl fun a E => ?_
        refine l_val E ok (y_load one_9 rfl (Holds.own 0 rfl rfl)) rfl rfl fun a E => ?_
        obtain ⟨r205, e206, hF⟩ := bnd hF
        refine l_call E go_24 rfl (calqueref26_Skeleton_w N x8.S l20 e206 hG ok) rfl rfl ?_
        rintro _ w ⟨rfl, ok⟩
        refine ⟨_, rfl, fun a E => ?_⟩
        refine l_val E ok (y_assign rfl) rfl rfl fun a E => ?_
        refine wpList_nil ?_
        refine t_norm ?_
        refine wp_ret ?_
        refine b_ret ?_
        refine t_ret ?_
        have hret : calqueref34_Proper_R u m0 S r205 a w := ⟨ok.drop.drop, E.d, ⟨rv_t E rfl, trivial⟩⟩
        obtain rfl := Option.some.inj hF
        exact fin _ _ hret
      replace hF := cond_f hc204 hF
      refine wp_seq ?_
      refine c_region ?_
      refine l_val E ok (y_eql rfl rfl) rfl rfl fun a E => ?_
      refine l_val E ok (y_assign rfl) rfl rfl fun a E => ?_
      refine wpList_nil ?_
      refine t_norm ?_
      refine c_if E rfl (fun hc207 => ?_) (fun hc207 => ?_)
      · replace hF := cond_t hc207 hF
        refine wp_seq ?_
        refine c_region ?_
        refine l_val E ok (y_fieldAddr fo_35_3 rfl) rfl rfl fun a E => ?_
        refine l_val E ok (y_load one_9 rfl (Holds.own 0 rfl rfl)) rfl rfl fun a E => ?_
        refine l_val E ok (y_seql rfl rfl) rfl rfl fun a E => ?_
        refine l_val E ok (y_move rfl) rfl rfl fun a E => ?_
        refine bsplit (x8.S == ([])) (fun hc208 => ?_) (fun hc208 => ?_)
        rotate_left
        · replace hF := cond_f hc208 hF
          replace E := E.upd 143 hc208 rfl
          iterate 3 refine l_skip E rfl rfl fun a E => ?_
          refine l_val E ok (y_pickF rfl rfl) rfl rfl fun a E => ?_
          refine l_val E ok (y_move rfl) rfl rfl fun a E => ?_
          iterate 3 refine l_skip E rfl rfl fun a E => ?_
          refine l_val E ok (y_pickF rfl rfl) rfl rfl fun a E => ?_
          refine l_val E ok (y_assign rfl) rfl rfl fun a E => ?_
          refine wpList_nil ?_
          refine t_norm ?_
          refine wp_ret ?_
          refine b_ret ?_
          refine t_ret ?_
          have hret : calqueref34_Proper_R u m0 S false a w := ⟨ok.drop.drop, E.d, ⟨rv_t E rfl, trivial⟩⟩
          obtain rfl := Option.some.inj hF
          exact fin _ _ hret
        replace hF := cond_t hc208 hF
        replace E := E.upd 143 hc208 rfl
        refine l_val E ok (y_fieldAddr fo_35_2 rfl) rfl rfl fun a E => ?_
        refine l_val E ok (y_load one_3 rfl (Holds.own 0 rfl rfl)) rfl rfl fun a E => ?_
        obtain ⟨r209, e210, hF⟩ := bnd hF
        refine l_call E go_25 rfl (calqueref26_Selection_w N x8.B r19 e210 hG ok) rfl rfl ?_
        rintro _ w ⟨rfl, ok⟩
        refine ⟨_, rfl, fun a E => ?_⟩
        refine l_val E ok (y_pickT rfl rfl) rfl rfl fun a E => ?_
        refine l_val E ok (y_move rfl) rfl rfl fun a E => ?_
        refine bsplit r209 (fun hc211 => ?_) (fun hc211 => ?_)
        rotate_left
        · replace hF := cond_f hc211 hF
          replace E := E.upd 148 hc211 rfl
          iterate 3 refine l_skip E rfl rfl fun a E => ?_
          refine l_val E ok (y_pickF rfl rfl) rfl rfl fun a E => ?_
          refine l_val E ok (y_assign rfl) rfl rfl fun a E => ?_
          refine wpList_nil ?_
          refine t_norm ?_
          refine wp_ret ?_
          refine b_ret ?_
          refine t_ret ?_
          have hret : calqueref34_Proper_R u m0 S false a w := ⟨ok.drop.drop, E.d, ⟨rv_t E rfl, trivial⟩⟩
          obtain rfl := Option.some.inj hF
          exact fin _ _ hret
        replace hF := cond_t hc211 hF
        replace E := E.upd 148 hc211 rfl
        refine l_val E ok (y_loadAgg (cs := [c1, c3]) agg_25 rfl rfl (Holds.own 1 rfl rfl)) rfl rfl fun a E => ?_
        refine l_val E ok (y_move rfl) rfl rfl fun a E => ?_
        obtain ⟨r212, e213, hF⟩ := bnd hF
        refine l_call E go_26 rfl (calqueref34_cases_w N _ c_0 ⟨_, _, rfl, h2, h4⟩ i_1 ri_1 e213 hG ok) rfl rfl ?_
        rintro _ w ⟨rfl, ok⟩
        refine ⟨_, rfl, fun a E => ?_⟩
        refine l_val E ok (y_pickT rfl rfl) rfl rfl fun a E => ?_
        refine l_val E ok (y_assign rfl) rfl rfl fun a E => ?_
        refine wpList_nil ?_
        refine t_norm ?_
        refine wp_ret ?_
        refine b_ret ?_
        refine t_ret ?_
        have hret : calqueref34_Proper_R u m0 S r212 a w := ⟨ok.drop.drop, E.d, ⟨rv_t E rfl, trivial⟩⟩
        obtain rfl := Option.some.inj hF
        exact fin _ _ hret
      replace hF := cond_f hc207 hF
      refine wp_seq ?_
      refine c_region ?_
      refine l_val E ok (y_eql rfl rfl) rfl rfl fun a E => ?_
      refine l_val E ok (y_assign rfl) rfl rfl fun a E => ?_
      refine wpList_nil ?_
      refine t_norm ?_
      refine c_if E rfl (fun hc214 => ?_) (fun hc214 => ?_)
      · as_aux_lemma =>
          replace hF := cond_t hc214 hF
          refine wp_seq ?_
          refine c_region ?_
          refine l_val E ok (y_move rfl) rfl rfl fun a E => ?_
          refine l_val E ok (y_gtr rfl rfl) rfl rfl fun a E => ?_
          refine l_val E ok (y_move rfl) rfl rfl fun a E => ?_
          refine bsplit (decide (i_1 > 0)) (fun hc215 => ?_) (fun hc215 => ?_)
          rotate_left
          · replace hF := cond_f hc215 hF
            replace E := E.upd 157 hc215 rfl
            iterate 18 refine l_skip E rfl rfl fun a E => ?_
            refine l_val E ok (y_pickF rfl rfl) rfl rfl fun a E => ?_
            refine l_val E ok (y_assign rfl) rfl rfl fun a E => ?_
            refine wpList_nil ?_
            refine t_norm ?_
            refine wp_ret ?_
            refine b_ret ?_
            refine t_ret ?_
            have hret : calqueref34_Proper_R u m0 S false a w := ⟨ok.drop.drop, E.d, ⟨rv_t E rfl, trivial⟩⟩
            obtain rfl := Option.some.inj hF
            exact fin _ _ hret
          replace hF := cond_t hc215 hF
          replace E := E.upd 157 hc215 rfl
          refine l_val E ok (y_fieldAddr fo_25_1 rfl) rfl rfl fun a E => ?_
          refine l_val E ok (y_load one_23 rfl (Holds.own 1 rfl rfl)) rfl rfl fun a E => ?_
          refine l_val E ok (y_move rfl) rfl rfl fun a E => ?_
          refine l_val E ok (y_sub rfl rfl (InR.dec ri_1 (show InR .i64 (0) by decide) hc215)) rfl rfl fun a E => ?_
          obtain ⟨x216, e217, hF⟩ := bnd hF
          obtain ⟨b218, o219, es220, hl221, rr222, at223, yy224⟩ := idxAt sl_23 h4 e217 (P := Tryd.prog) (X := .tmp 159) (I := .tmp 161) (kd := .i64) (ev_of E rfl) (ev_of E rfl)
          obtain ⟨rfl, r225, r226, r227, l228⟩ := rr222
          refine l_val E ok (yy224 _ _) rfl rfl fun a E => ?_
          refine l_val E ok (y_fieldAddr fo_35_0 rfl) rfl rfl fun a E => ?_
          refine l_val E ok (y_load one_3 rfl (Holds.ro (At.sub 0 1 at223))) rfl rfl fun a E => ?_
          refine l_val E ok (y_eql rfl rfl) rfl rfl fun a E => ?_
          refine l_val E ok (y_move rfl) rfl rfl fun a E => ?_
          refine bsplit (x216.Op == 10) (fun hc229 => ?_) (fun hc229 => ?_)
          · replace hF := cond_t hc229 hF
            replace E := E.upd 166 hc229 rfl
            iterate 8 refine l_skip E rfl rfl fun a E => ?_
            refine l_val E ok (y_pickT rfl rfl) rfl rfl fun a E => ?_
            refine l_val E ok (y_pickT rfl rfl) rfl rfl fun a E => ?_
            refine l_val E ok (y_assign rfl) rfl rfl fun a E => ?_
            refine wpList_nil ?_
            refine t_norm ?_
            refine wp_ret ?_
            refine b_ret ?_
            refine t_ret ?_
            have hret : calqueref34_Proper_R u m0 S true a w := ⟨ok.drop.drop, E.d, ⟨rv_t E rfl, trivial⟩⟩
            obtain rfl := Option.some.inj hF
            exact fin _ _ hret
          replace hF := cond_f hc229 hF
          replace E := E.upd 166 hc229 rfl
          refine l_val E ok (y_fieldAddr fo_25_1 rfl) rfl rfl fun a E => ?_
          refine l_val E ok (y_load one_23 rfl (Holds.own 1 rfl rfl)) rfl rfl fun a E => ?_
          refine l_val E ok (y_move rfl) rfl rfl fun a E => ?_
          refine l_val E ok (y_sub rfl rfl (InR.dec ri_1 (show InR .i64 (0) by decide) hc215)) rfl rfl fun a E => ?_
          obtain ⟨x230, e231, hF⟩ := bnd hF
          obtain ⟨b232, o233, es234, hl235, rr236, at237, yy238⟩ := idxAt sl_23 h4 e231 (P := Tryd.prog) (X := .tmp 168) (I := .tmp 170) (kd := .i64) (ev_of E rfl) (ev_of E rfl)
          obtain ⟨rfl, r239, r240, r241, l242⟩ := rr236
          refine l_val E ok (yy238 _ _) rfl rfl fun a E => ?_
          refine l_val E ok (y_fieldAddr fo_35_0 rfl) rfl rfl fun a E => ?_
          refine l_val E ok (y_load one_3 rfl (Holds.ro (At.sub 0 1 at237))) rfl rfl fun a E => ?_
          refine l_val E ok (y_eql rfl rfl) rfl rfl fun a E => ?_
          refine l_val E ok (y_pickF rfl rfl) rfl rfl fun a E => ?_
          refine l_val E ok (y_pickT rfl rfl) rfl rfl fun a E => ?_
          refine l_val E ok (y_assign rfl) rfl rfl fun a E => ?_
          refine wpList_nil ?_
          refine t_norm ?_
          refine wp_ret ?_
          refine b_ret ?_
          refine t_ret ?_
          have hret : calqueref34_Proper_R u m0 S (x230.Op == 11) a w := ⟨ok.drop.drop, E.d, ⟨rv_t E rfl, trivial⟩⟩
          obtain rfl := Option.some.inj hF
          exact fin _ _ hret
      replace hF := cond_f hc214 hF
      refine wp_seq ?_
      refine wp_seq ?_
      refine c_region ?_
      refine l_val E ok (y_eql rfl rfl) rfl rfl fun a E => ?_
      refine l_val E ok (y_assign rfl) rfl rfl fun a E => ?_
      refine wpList_nil ?_
      refine t_norm ?_
      obtain ⟨o243, hJ, hF⟩ := bnd hF
      refine c_mono (Q' := fun e a w => e = .normal ∧ Ok u m0 ([(b21, Obj.cells [(Value.int .i64 x8.Op), (Value.int .i64 x8.A), (Value.int .i64 x8.B), (Value.string (bs x8.S))].toArray 35 (0, 0))] :: [(b5, Obj.cells [c1, c3].toArray 25 (0, 0))] :: S) w ∧ Env 196 a [(1, (Value.int .i64 i_1)), (2, (Value.pointer (some ⟨b5, 0, none⟩))), (5, (Value.pointer (some ⟨b21, 0, none⟩))), (103, (Value.int .i64 x8.Op)), (177, (Value.bool o243))]) ?_ ?_
      · replace hF := hJ
        clear hJ
        refine c_if E rfl (fun hc244 => ?_) (fun hc244 => ?_)
        · replace hF := cond_t hc244 hF
          refine wp_skip ?_
          obtain rfl := Option.some.inj hF
          exact ⟨rfl, ⟨ok, E.keep [1, 2, 5, 103, 177]⟩⟩
        replace hF := cond_f hc244 hF
        refine c_region ?_
        refine l_val E ok (y_eql rfl rfl) rfl rfl fun a E => ?_
        refine l_val E ok (y_assign rfl) rfl rfl fun a E => ?_
        refine wpList_nil ?_
        obtain rfl := Option.some.inj hF
        exact ⟨rfl, ⟨ok, E.keep [1, 2, 5, 103, 177]⟩⟩
      clear hJ
      intro e a w hO
      obtain ⟨rfl, ok, E⟩ := hO
      refine t_norm ?_
      refine c_if E rfl (fun hc245 => ?_) (fun hc245 => ?_)
      · replace hF := cond_t hc245 hF
        refine wp_seq ?_
        refine c_region ?_
        refine l_val E ok (y_fieldAddr fo_35_3 rfl) rfl rfl fun a E => ?_
        refine l_val E ok (y_load one_9 rfl (Holds.own 0 rfl rfl)) rfl rfl fun a E => ?_
        refine l_val E ok (y_seql rfl rfl) rfl rfl fun a E => ?_
        refine l_val E ok (y_assign rfl) rfl rfl fun a E => ?_
        refine wpList_nil ?_
        refine t_norm ?_
        refine wp_ret ?_
        refine b_ret ?_
        refine t_ret ?_
        have hret : calqueref34_Proper_R u m0 S (x8.S == ([])) a w := ⟨ok.drop.drop, E.d, ⟨rv_t E rfl, trivial⟩⟩
        obtain rfl := Option.some.inj hF
        exact fin _ _ hret
      replace hF := cond_f hc245 hF
      refine wp_seq ?_
      refine c_region ?_
      refine l_val E ok (y_eql rfl rfl) rfl rfl fun a E => ?_
      refine l_val E ok (y_assign rfl) rfl rfl fun a E => ?_
      refine wpList_nil ?_
      refine t_norm ?_
      refine c_if E rfl (fun hc246 => ?_) (fun hc246 => ?_)
      rotate_left
      · replace hF := cond_f hc246 hF
        refine wp_skip ?_
        refine b_norm ?_
        refine t_norm ?_
        refine wp_seq ?_
        refine c_region ?_
        refine l_val E ok (y_assign rfl) rfl rfl fun a E => ?_
        refine wpList_nil ?_
        refine t_norm ?_
        refine wp_ret ?_
        have hret : calqueref34_Proper_R u m0 S false a w := ⟨ok.drop.drop, E.d, ⟨rv_t E rfl, trivial⟩⟩
        obtain rfl := Option.some.inj hF
        exact fin _ _ hret
      replace hF := cond_t hc246 hF
      refine wp_seq ?_
      refine c_region ?_
      refine l_val E ok (y_fieldAddr fo_35_3 rfl) rfl rfl fun a E => ?_
      refine l_val E ok (y_load one_9 rfl (Holds.own 0 rfl rfl)) rfl rfl fun a E => ?_
      refine l_val E ok (y_seql rfl rfl) rfl rfl fun a E => ?_
      refine l_val E ok (y_move rfl) rfl rfl fun a E => ?_
      refine bsplit (x8.S == ([])) (fun hc247 => ?_) (fun hc247 => ?_)
      · replace hF := cond_t hc247 hF
        replace E := E.upd 188 hc247 rfl
        refine l_val E ok (y_move rfl) rfl rfl fun a E => ?_
        refine l_val E ok (y_fieldAddr fo_25_1 rfl) rfl rfl fun a E => ?_
        refine l_val E ok (y_load one_23 rfl (Holds.own 1 rfl rfl)) rfl rfl fun a E => ?_
        refine l_val E ok (y_lenL sl_23 h4 rfl) rfl rfl fun a E => ?_
        refine l_val E ok (y_subw rfl rfl) rfl rfl fun a E => ?_
        refine l_val E ok (y_eql rfl rfl) rfl rfl fun a E => ?_
        refine l_val E ok (y_pickT rfl rfl) rfl rfl fun a E => ?_
        refine l_val E ok (y_assign rfl) rfl rfl fun a E => ?_
        refine wpList_nil ?_
        refine t_norm ?_
        refine wp_ret ?_
        refine b_ret ?_
        refine t_ret ?_
        have hret : calqueref34_Proper_R u m0 S (i_1 == (IntKind.wrap .i64 ((c_0.Ins.length : Int) - 1))) a w := ⟨ok.drop.drop, E.d, ⟨rv_t E rfl, trivial⟩⟩
        obtain rfl := Option.some.inj hF
        exact fin _ _ hret
      replace hF := cond_f hc247 hF
      replace E := E.upd 188 hc247 rfl
      iterate 6 refine l_skip E rfl rfl fun a E => ?_
      refine l_val E ok (y_pickF rfl rfl) rfl rfl fun a E => ?_
      refine l_val E ok (y_assign rfl) rfl rfl fun a E => ?_
      refine wpList_nil ?_
      refine t_norm ?_
      refine wp_ret ?_
      refine b_ret ?_
      refine t_ret ?_
      have hret : calqueref34_Proper_R u m0 S false a w := ⟨ok.drop.drop, E.d, ⟨rv_t E rfl, trivial⟩⟩
      obtain rfl := Option.some.inj hF
      exact fin _ _ hret
  replace hF := hJ
  clear hJ
  refine c_region ?_
  refine l_val E ok (y_move rfl) rfl rfl fun a E => ?_
  refine l_val E ok (y_move rfl) rfl rfl fun a E => ?_
  refine bsplit (decide (x8.Op ≤ 10)) (fun hc130 => ?_) (fun hc130 => ?_)
  rotate_left
  · as_aux_lemma =>
      replace hF := cond_f hc130 hF
      replace E := E.upd 39 hc130 rfl
      iterate 11 refine l_skip E rfl rfl fun a E => ?_
      refine l_val E ok (y_pickF rfl rfl) rfl rfl fun a E => ?_
      refine l_val E ok (y_move rfl) rfl rfl fun a E => ?_
      refine l_val E ok (y_move rfl) rfl rfl fun a E => ?_
      refine l_val E ok (y_move rfl) rfl rfl fun a E => ?_
      refine bsplit (x8.Op == 12) (fun hc162 => ?_) (fun hc162 => ?_)
      rotate_left
      · as_aux_lemma =>
          replace hF := cond_f hc162 hF
          replace E := E.upd 54 hc162 rfl
          iterate 22 refine l_skip E rfl rfl fun a E => ?_
          refine l_val E ok (y_pickF rfl rfl) rfl rfl fun a E => ?_
          refine l_val E ok (y_pickF rfl rfl) rfl rfl fun a E => ?_
          refine l_val E ok (y_move rfl) rfl rfl fun a E => ?_
          refine l_val E ok (y_move rfl) rfl rfl fun a E => ?_
          refine l_val E ok (y_not rfl) rfl rfl fun a E => ?_
          refine l_val E ok (y_move rfl) rfl rfl fun a E => ?_
          refine bsplit (!(decide (x8.Op ≤ 10))) (fun hc185 => ?_) (fun hc185 => ?_)
          rotate_left
          · replace hF := cond_f hc185 hF
            replace E := E.upd 82 hc185 rfl
            iterate 2 refine l_skip E rfl rfl fun a E => ?_
            refine l_val E ok (y_pickF rfl rfl) rfl rfl fun a E => ?_
            refine l_val E ok (y_move rfl) rfl rfl fun a E => ?_
            iterate 3 refine l_skip E rfl rfl fun a E => ?_
            refine l_val E ok (y_pickF rfl rfl) rfl rfl fun a E => ?_
            refine l_val E ok (y_pickF rfl rfl) rfl rfl fun a E => ?_
            refine l_val E ok (y_move rfl) rfl rfl fun a E => ?_
            refine l_val E ok (y_fieldAddr fo_35_0 rfl) rfl rfl fun a E => ?_
            refine l_val E ok (y_load one_3 rfl (Holds.own 0 rfl rfl)) rfl rfl fun a E => ?_
            refine l_val E ok (y_neq rfl rfl) rfl rfl fun a E => ?_
            refine l_val E ok (y_move rfl) rfl rfl fun a E => ?_
            refine bsplit (x8.Op != 10) (fun hc190 => ?_) (fun hc190 => ?_)
            · replace hF := cond_t hc190 hF
              replace E := E.upd 96 hc190 rfl
              refine l_val E ok (y_fieldAddr fo_35_2 rfl) rfl rfl fun a E => ?_
              refine l_val E ok (y_load one_3 rfl (Holds.own 0 rfl rfl)) rfl rfl fun a E => ?_
              refine l_val E ok (y_neq rfl rfl) rfl rfl fun a E => ?_
              refine l_val E ok (y_pickT rfl rfl) rfl rfl fun a E => ?_
              refine l_val E ok (y_pickF rfl rfl) rfl rfl fun a E => ?_
              refine wpList_nil ?_
              obtain rfl := Option.some.inj hF
              exact ⟨rfl, ⟨ok, E.keep [1, 2, 5, 101]⟩⟩
            replace hF := cond_f hc190 hF
            replace E := E.upd 96 hc190 rfl
            iterate 3 refine l_skip E rfl rfl fun a E => ?_
            refine l_val E ok (y_pickF rfl rfl) rfl rfl fun a E => ?_
            refine l_val E ok (y_pickF rfl rfl) rfl rfl fun a E => ?_
            refine wpList_nil ?_
            obtain rfl := Option.some.inj hF
            exact ⟨rfl, ⟨ok, E.keep [1, 2, 5, 101]⟩⟩
          replace hF := cond_t hc185 hF
          replace E := E.upd 82 hc185 rfl
          refine l_val E ok (y_move rfl) rfl rfl fun a E => ?_
          refine l_val E ok (y_not rfl) rfl rfl fun a E => ?_
          refine l_val E ok (y_pickT rfl rfl) rfl rfl fun a E => ?_
          refine l_val E ok (y_move rfl) rfl rfl fun a E => ?_
          refine bsplit (!(x8.Op == 12)) (fun hc186 => ?_) (fun hc186 => ?_)
          rotate_left
          · replace hF := cond_f hc186 hF
            replace E := E.upd 86 hc186 rfl
            iterate 3 refine l_skip E rfl rfl fun a E => ?_
            refine l_val E ok (y_pickF rfl rfl) rfl rfl fun a E => ?_
            refine l_val E ok (y_pickF rfl rfl) rfl rfl fun a E => ?_
            refine l_val E ok (y_move rfl) rfl rfl fun a E => ?_
            refine l_val E ok (y_fieldAddr fo_35_0 rfl) rfl rfl fun a E => ?_
            refine l_val E ok (y_load one_3 rfl (Holds.own 0 rfl rfl)) rfl rfl fun a E => ?_
            refine l_val E ok (y_neq rfl rfl) rfl rfl fun a E => ?_
            refine l_val E ok (y_move rfl) rfl rfl fun a E => ?_
            refine bsplit (x8.Op != 10) (fun hc189 => ?_) (fun hc189 => ?_)
            · replace hF := cond_t hc189 hF
              replace E := E.upd 96 hc189 rfl
              refine l_val E ok (y_fieldAddr fo_35_2 rfl) rfl rfl fun a E => ?_
              refine l_val E ok (y_load one_3 rfl (Holds.own 0 rfl rfl)) rfl rfl fun a E => ?_
              refine l_val E ok (y_neq rfl rfl) rfl rfl fun a E => ?_
              refine l_val E ok (y_pickT rfl rfl) rfl rfl fun a E => ?_
              refine l_val E ok (y_pickF rfl rfl) rfl rfl fun a E => ?_
              refine wpList_nil ?_
              obtain rfl := Option.some.inj hF
              exact ⟨rfl, ⟨ok, E.keep [1, 2, 5, 101]⟩⟩
            replace hF := cond_f hc189 hF
            replace E := E.upd 96 hc189 rfl
            iterate 3 refine l_skip E rfl rfl fun a E => ?_
            refine l_val E ok (y_pickF rfl rfl) rfl rfl fun a E => ?_
            refine l_val E ok (y_pickF rfl rfl) rfl rfl fun a E => ?_
            refine wpList_nil ?_
            obtain rfl := Option.some.inj hF
            exact ⟨rfl, ⟨ok, E.keep [1, 2, 5, 101]⟩⟩
          replace hF := cond_t hc186 hF
          replace E := E.upd 86 hc186 rfl
          refine l_val E ok (y_fieldAddr fo_35_1 rfl) rfl rfl fun a E => ?_
          refine l_val E ok (y_load one_3 rfl (Holds.own 0 rfl rfl)) rfl rfl fun a E => ?_
          refine l_val E ok (y_neq rfl rfl) rfl rfl fun a E => ?_
          refine l_val E ok (y_pickT rfl rfl) rfl rfl fun a E => ?_
          refine l_val E ok (y_pickF rfl rfl) rfl rfl fun a E => ?_
          refine l_val E ok (y_move rfl) rfl rfl fun a E => ?_
          refine bsplit (x8.A != 0) (fun hc187 => ?_) (fun hc187 => ?_)
          · replace hF := cond_t hc187 hF
            replace E := E.upd 92 hc187 rfl
            iterate 8 refine l_skip E rfl rfl fun a E => ?_
            refine l_val E ok (y_pickT rfl rfl) rfl rfl fun a E => ?_
            refine wpList_nil ?_
            obtain rfl := Option.some.inj hF
            exact ⟨rfl, ⟨ok, E.keep [1, 2, 5, 101]⟩⟩
          replace hF := cond_f hc187 hF
          replace E := E.upd 92 hc187 rfl
          refine l_val E ok (y_fieldAddr fo_35_0 rfl) rfl rfl fun a E => ?_
          refine l_val E ok (y_load one_3 rfl (Holds.own 0 rfl rfl)) rfl rfl fun a E => ?_
          refine l_val E ok (y_neq rfl rfl) rfl rfl fun a E => ?_
          refine l_val E ok (y_move rfl) rfl rfl fun a E => ?_
          refine bsplit (x8.Op != 10) (fun hc188 => ?_) (fun hc188 => ?_)
          · replace hF := cond_t hc188 hF
            replace E := E.upd 96 hc188 rfl
            refine l_val E ok (y_fieldAddr fo_35_2 rfl) rfl rfl fun a E => ?_
            refine l_val E ok (y_load one_3 rfl (Holds.own 0 rfl rfl)) rfl rfl fun a E => ?_
            refine l_val E ok (y_neq rfl rfl) rfl rfl fun a E => ?_
            refine l_val E ok (y_pickT rfl rfl) rfl rfl fun a E => ?_
            refine l_val E ok (y_pickF rfl rfl) rfl rfl fun a E => ?_
            refine wpList_nil ?_
            obtain rfl := Option.some.inj hF
            exact ⟨rfl, ⟨ok, E.keep [1, 2, 5, 101]⟩⟩
          replace hF := cond_f hc188 hF
          replace E := E.upd 96 hc188 rfl
          iterate 3 refine l_skip E rfl rfl fun a E => ?_
          refine l_val E ok (y_pickF rfl rfl) rfl rfl fun a E => ?_
          refine l_val E ok (y_pickF rfl rfl) rfl rfl fun a E => ?_
          refine wpList_nil ?_
          obtain rfl := Option.some.inj hF
          exact ⟨rfl, ⟨ok, E.keep [1, 2, 5, 101]⟩⟩
      replace hF := cond_t hc162 hF
      replace E := E.upd 54 hc162 rfl
      refine l_val E ok (y_fieldAddr fo_35_1 rfl) rfl rfl fun a E => ?_
      refine l_val E ok (y_load one_3 rfl (Holds.own 0 rfl rfl)) rfl rfl fun a E => ?_
      refine l_val E ok (y_move rfl) rfl rfl fun a E => ?_
      refine l_val E ok (y_leq rfl rfl) rfl rfl fun a E => ?_
      refine l_val E ok (y_move rfl) rfl rfl fun a E => ?_
      refine bsplit (decide (x8.A ≤ i_1)) (fun hc163 => ?_) (fun hc163 => ?_)
      · replace hF := cond_t hc163 hF
        replace E := E.upd 59 hc163 rfl
        iterate 6 refine l_skip E rfl rfl fun a E => ?_
        refine l_val E ok (y_pickT rfl rfl) rfl rfl fun a E => ?_
        refine l_val E ok (y_move rfl) rfl rfl fun a E => ?_
        iterate 8 refine l_skip E rfl rfl fun a E => ?_
        refine l_val E ok (y_pickT rfl rfl) rfl rfl fun a E => ?_
        refine l_val E ok (y_pickT rfl rfl) rfl rfl fun a E => ?_
        refine l_val E ok (y_pickF rfl rfl) rfl rfl fun a E => ?_
        refine l_val E ok (y_move rfl) rfl rfl fun a E => ?_
        iterate 11 refine l_skip E rfl rfl fun a E => ?_
        refine l_val E ok (y_pickT rfl rfl) rfl rfl fun a E => ?_
        refine l_val E ok (y_move rfl) rfl rfl fun a E => ?_
        iterate 8 refine l_skip E rfl rfl fun a E => ?_
        refine l_val E ok (y_pickT rfl rfl) rfl rfl fun a E => ?_
        refine wpList_nil ?_
        obtain rfl := Option.some.inj hF
        exact ⟨rfl, ⟨ok, E.keep [1, 2, 5, 101]⟩⟩
      replace hF := cond_f hc163 hF
      replace E := E.upd 59 hc163 rfl
      refine l_val E ok (y_fieldAddr fo_35_1 rfl) rfl rfl fun a E => ?_
      refine l_val E ok (y_load one_3 rfl (Holds.own 0 rfl rfl)) rfl rfl fun a E => ?_
      refine l_val E ok (y_fieldAddr fo_25_1 rfl) rfl rfl fun a E => ?_
      refine l_val E ok (y_load one_23 rfl (Holds.own 1 rfl rfl)) rfl rfl fun a E => ?_
      refine l_val E ok (y_lenL sl_23 h4 rfl) rfl rfl fun a E => ?_
      refine l_val E ok (y_geq rfl rfl) rfl rfl fun a E => ?_
      refine l_val E ok (y_pickF rfl rfl) rfl rfl fun a E => ?_
      refine l_val E ok (y_move rfl) rfl rfl fun a E => ?_
      refine bsplit (decide (x8.A ≥ (c_0.Ins.length : Int))) (fun hc164 => ?_) (fun hc164 => ?_)
      · replace hF := cond_t hc164 hF
        replace E := E.upd 67 hc164 rfl
        iterate 8 refine l_skip E rfl rfl fun a E => ?_
        refine l_val E ok (y_pickT rfl rfl) rfl rfl fun a E => ?_
        refine l_val E ok (y_pickT rfl rfl) rfl rfl fun a E => ?_
        refine l_val E ok (y_pickF rfl rfl) rfl rfl fun a E => ?_
        refine l_val E ok (y_move rfl) rfl rfl fun a E => ?_
        iterate 11 refine l_skip E rfl rfl fun a E => ?_
        refine l_val E ok (y_pickT rfl rfl) rfl rfl fun a E => ?_
        refine l_val E ok (y_move rfl) rfl rfl fun a E => ?_
        iterate 8 refine l_skip E rfl rfl fun a E => ?_
        refine l_val E ok (y_pickT rfl rfl) rfl rfl fun a E => ?_
        refine wpList_nil ?_
        obtain rfl := Option.some.inj hF
        exact ⟨rfl, ⟨ok, E.keep [1, 2, 5, 101]⟩⟩
      replace hF := cond_f hc164 hF
      replace E := E.upd 67 hc164 rfl
      refine l_val E ok (y_fieldAddr fo_25_1 rfl) rfl rfl fun a E => ?_
      refine l_val E ok (y_load one_23 rfl (Holds.own 1 rfl rfl)) rfl rfl fun a E => ?_
      refine l_val E ok (y_fieldAddr fo_35_1 rfl) rfl rfl fun a E => ?_
      refine l_val E ok (y_load one_3 rfl (Holds.own 0 rfl rfl)) rfl rfl fun a E => ?_
      obtain ⟨x165, e166, hF⟩ := bnd hF
      obtain ⟨b167, o168, es169, hl170, rr171, at172, yy173⟩ := idxAt sl_23 h4 e166 (P := Tryd.prog) (X := .tmp 69) (I := .tmp 71) (kd := .i64) (ev_of E rfl) (ev_of E rfl)
      obtain ⟨rfl, r174, r175, r176, l177⟩ := rr171
      refine l_val E ok (yy173 _ _) rfl rfl fun a E => ?_
      refine l_val E ok (y_fieldAddr fo_35_0 rfl) rfl rfl fun a E => ?_
      refine l_val E ok (y_load one_3 rfl (Holds.ro (At.sub 0 1 at172))) rfl rfl fun a E => ?_
      refine l_val E ok (y_eql rfl rfl) rfl rfl fun a E => ?_
      refine l_val E ok (y_pickF rfl rfl) rfl rfl fun a E => ?_
      refine l_val E ok (y_pickT rfl rfl) rfl rfl fun a E => ?_
      refine l_val E ok (y_pickF rfl rfl) rfl rfl fun a E => ?_
      refine l_val E ok (y_move rfl) rfl rfl fun a E => ?_
      refine bsplit (x165.Op == 11) (fun hc178 => ?_) (fun hc178 => ?_)
      · replace hF := cond_t hc178 hF
        replace E := E.upd 79 hc178 rfl
        iterate 11 refine l_skip E rfl rfl fun a E => ?_
        refine l_val E ok (y_pickT rfl rfl) rfl rfl fun a E => ?_
        refine l_val E ok (y_move rfl) rfl rfl fun a E => ?_
        iterate 8 refine l_skip E rfl rfl fun a E => ?_
        refine l_val E ok (y_pickT rfl rfl) rfl rfl fun a E => ?_
        refine wpList_nil ?_
        obtain rfl := Option.some.inj hF
        exact ⟨rfl, ⟨ok, E.keep [1, 2, 5, 101]⟩⟩
      replace hF := cond_f hc178 hF
      replace E := E.upd 79 hc178 rfl
      refine l_val E ok (y_move rfl) rfl rfl fun a E => ?_
      refine l_val E ok (y_not rfl) rfl rfl fun a E => ?_
      refine l_val E ok (y_move rfl) rfl rfl fun a E => ?_
      refine bsplit (!(decide (x8.Op ≤ 10))) (fun hc179 => ?_) (fun hc179 => ?_)
      rotate_left
      · replace hF := cond_f hc179 hF
        replace E := E.upd 82 hc179 rfl
        iterate 2 refine l_skip E rfl rfl fun a E => ?_
        refine l_val E ok (y_pickF rfl rfl) rfl rfl fun a E => ?_
        refine l_val E ok (y_move rfl) rfl rfl fun a E => ?_
        iterate 3 refine l_skip E rfl rfl fun a E => ?_
        refine l_val E ok (y_pickF rfl rfl) rfl rfl fun a E => ?_
        refine l_val E ok (y_pickF rfl rfl) rfl rfl fun a E => ?_
        refine l_val E ok (y_move rfl) rfl rfl fun a E => ?_
        refine l_val E ok (y_fieldAddr fo_35_0 rfl) rfl rfl fun a E => ?_
        refine l_val E ok (y_load one_3 rfl (Holds.own 0 rfl rfl)) rfl rfl fun a E => ?_
        refine l_val E ok (y_neq rfl rfl) rfl rfl fun a E => ?_
        refine l_val E ok (y_move rfl) rfl rfl fun a E => ?_
        refine bsplit (x8.Op != 10) (fun hc184 => ?_) (fun hc184 => ?_)
        · replace hF := cond_t hc184 hF
          replace E := E.upd 96 hc184 rfl
          refine l_val E ok (y_fieldAddr fo_35_2 rfl) rfl rfl fun a E => ?_
          refine l_val E ok (y_load one_3 rfl (Holds.own 0 rfl rfl)) rfl rfl fun a E => ?_
          refine l_val E ok (y_neq rfl rfl) rfl rfl fun a E => ?_
          refine l_val E ok (y_pickT rfl rfl) rfl rfl fun a E => ?_
          refine l_val E ok (y_pickF rfl rfl) rfl rfl fun a E => ?_
          refine wpList_nil ?_
          obtain rfl := Option.some.inj hF
          exact ⟨rfl, ⟨ok, E.keep [1, 2, 5, 101]⟩⟩
        replace hF := cond_f hc184 hF
        replace E := E.upd 96 hc184 rfl
        iterate 3 refine l_skip E rfl rfl fun a E => ?_
        refine l_val E ok (y_pickF rfl rfl) rfl rfl fun a E => ?_
        refine l_val E ok (y_pickF rfl rfl) rfl rfl fun a E => ?_
        refine wpList_nil ?_
        obtain rfl := Option.some.inj hF
        exact ⟨rfl, ⟨ok, E.keep [1, 2, 5, 101]⟩⟩
      replace hF := cond_t hc179 hF
      replace E := E.upd 82 hc179 rfl
      refine l_val E ok (y_move rfl) rfl rfl fun a E => ?_
      refine l_val E ok (y_not rfl) rfl rfl fun a E => ?_
      refine l_val E ok (y_pickT rfl rfl) rfl rfl fun a E => ?_
      refine l_val E ok (y_move rfl) rfl rfl fun a E => ?_
      refine bsplit (!(x8.Op == 12)) (fun hc180 => ?_) (fun hc180 => ?_)
      rotate_left
      · replace hF := cond_f hc180 hF
        replace E := E.upd 86 hc180 rfl
        iterate 3 refine l_skip E rfl rfl fun a E => ?_
        refine l_val E ok (y_pickF rfl rfl) rfl rfl fun a E => ?_
        refine l_val E ok (y_pickF rfl rfl) rfl rfl fun a E => ?_
        refine l_val E ok (y_move rfl) rfl rfl fun a E => ?_
        refine l_val E ok (y_fieldAddr fo_35_0 rfl) rfl rfl fun a E => ?_
        refine l_val E ok (y_load one_3 rfl (Holds.own 0 rfl rfl)) rfl rfl fun a E => ?_
        refine l_val E ok (y_neq rfl rfl) rfl rfl fun a E => ?_
        refine l_val E ok (y_move rfl) rfl rfl fun a E => ?_
        refine bsplit (x8.Op != 10) (fun hc183 => ?_) (fun hc183 => ?_)
        · replace hF := cond_t hc183 hF
          replace E := E.upd 96 hc183 rfl
          refine l_val E ok (y_fieldAddr fo_35_2 rfl) rfl rfl fun a E => ?_
          refine l_val E ok (y_load one_3 rfl (Holds.own 0 rfl rfl)) rfl rfl fun a E => ?_
          refine l_val E ok (y_neq rfl rfl) rfl rfl fun a E => ?_
          refine l_val E ok (y_pickT rfl rfl) rfl rfl fun a E => ?_
          refine l_val E ok (y_pickF rfl rfl) rfl rfl fun a E => ?_
          refine wpList_nil ?_
          obtain rfl := Option.some.inj hF
          exact ⟨rfl, ⟨ok, E.keep [1, 2, 5, 101]⟩⟩
        replace hF := cond_f hc183 hF
        replace E := E.upd 96 hc183 rfl
        iterate 3 refine l_skip E rfl rfl fun a E => ?_
        refine l_val E ok (y_pickF rfl rfl) rfl rfl fun a E => ?_
        refine l_val E ok (y_pickF rfl rfl) rfl rfl fun a E => ?_
        refine wpList_nil ?_
        obtain rfl := Option.some.inj hF
        exact ⟨rfl, ⟨ok, E.keep [1, 2, 5, 101]⟩⟩
      replace hF := cond_t hc180 hF
      replace E := E.upd 86 hc180 rfl
      refine l_val E ok (y_fieldAddr fo_35_1 rfl) rfl rfl fun a E => ?_
      refine l_val E ok (y_load one_3 rfl (Holds.own 0 rfl rfl)) rfl rfl fun a E => ?_
      refine l_val E ok (y_neq rfl rfl) rfl rfl fun a E => ?_
      refine l_val E ok (y_pickT rfl rfl) rfl rfl fun a E => ?_
      refine l_val E ok (y_pickF rfl rfl) rfl rfl fun a E => ?_
      refine l_val E ok (y_move rfl) rfl rfl fun a E => ?_
      refine bsplit (x8.A != 0) (fun hc181 => ?_) (fun hc181 => ?_)
      · replace hF := cond_t hc181 hF
        replace E := E.upd 92 hc181 rfl
        iterate 8 refine l_skip E rfl rfl fun a E => ?_
        refine l_val E ok (y_pickT rfl rfl) rfl rfl fun a E => ?_
        refine wpList_nil ?_
        obtain rfl := Option.some.inj hF
        exact ⟨rfl, ⟨ok, E.keep [1, 2, 5, 101]⟩⟩
      replace hF := cond_f hc181 hF
      replace E := E.upd 92 hc181 rfl
      refine l_val E ok (y_fieldAddr fo_35_0 rfl) rfl rfl fun a E => ?_
      refine l_val E ok (y_load one_3 rfl (Holds.own 0 rfl rfl)) rfl rfl fun a E => ?_
      refine l_val E ok (y_neq rfl rfl) rfl rfl fun a E => ?_
      refine l_val E ok (y_move rfl) rfl rfl fun a E => ?_
      refine bsplit (x8.Op != 10) (fun hc182 => ?_) (fun hc182 => ?_)
      · replace hF := cond_t hc182 hF
        replace E := E.upd 96 hc182 rfl
        refine l_val E ok (y_fieldAddr fo_35_2 rfl) rfl rfl fun a E => ?_
        refine l_val E ok (y_load one_3 rfl (Holds.own 0 rfl rfl)) rfl rfl fun a E => ?_
        refine l_val E ok (y_neq rfl rfl) rfl rfl fun a E => ?_
        refine l_val E ok (y_pickT rfl rfl) rfl rfl fun a E => ?_
        refine l_val E ok (y_pickF rfl rfl) rfl rfl fun a E => ?_
        refine wpList_nil ?_
        obtain rfl := Option.some.inj hF
        exact ⟨rfl, ⟨ok, E.keep [1, 2, 5, 101]⟩⟩
      replace hF := cond_f hc182 hF
      replace E := E.upd 96 hc182 rfl
      iterate 3 refine l_skip E rfl rfl fun a E => ?_
      refine l_val E ok (y_pickF rfl rfl) rfl rfl fun a E => ?_
      refine l_val E ok (y_pickF rfl rfl) rfl rfl fun a E => ?_
      refine wpList_nil ?_
      obtain rfl := Option.some.inj hF
      exact ⟨rfl, ⟨ok, E.keep [1, 2, 5, 101]⟩⟩
  replace hF := cond_t hc130 hF
  replace E := E.upd 39 hc130 rfl
  refine l_val E ok (y_fieldAddr fo_35_1 rfl) rfl rfl fun a E => ?_
  refine l_val E ok (y_load one_3 rfl (Holds.own 0 rfl rfl)) rfl rfl fun a E => ?_
  refine l_val E ok (y_lss rfl rfl) rfl rfl fun a E => ?_
  refine l_val E ok (y_move rfl) rfl rfl fun a E => ?_
  refine bsplit (decide (x8.A < 0)) (fun hc131 => ?_) (fun hc131 => ?_)
  · replace hF := cond_t hc131 hF
    replace E := E.upd 43 hc131 rfl
    iterate 6 refine l_skip E rfl rfl fun a E => ?_
    refine l_val E ok (y_pickT rfl rfl) rfl rfl fun a E => ?_
    refine l_val E ok (y_pickT rfl rfl) rfl rfl fun a E => ?_
    refine l_val E ok (y_move rfl) rfl rfl fun a E => ?_
    iterate 25 refine l_skip E rfl rfl fun a E => ?_
    refine l_val E ok (y_pickT rfl rfl) rfl rfl fun a E => ?_
    refine l_val E ok (y_move rfl) rfl rfl fun a E => ?_
    iterate 11 refine l_skip E rfl rfl fun a E => ?_
    refine l_val E ok (y_pickT rfl rfl) rfl rfl fun a E => ?_
    refine l_val E ok (y_move rfl) rfl rfl fun a E => ?_
    iterate 8 refine l_skip E rfl rfl fun a E => ?_
    refine l_val E ok (y_pickT rfl rfl) rfl rfl fun a E => ?_
    refine wpList_nil ?_
    obtain rfl := Option.some.inj hF
    exact ⟨rfl, ⟨ok, E.keep [1, 2, 5, 101]⟩⟩
  replace hF := cond_f hc131 hF
  replace E := E.upd 43 hc131 rfl
  refine l_val E ok (y_fieldAddr fo_35_1 rfl) rfl rfl fun a E => ?_
  refine l_val E ok (y_load one_3 rfl (Holds.own 0 rfl rfl)) rfl rfl fun a E => ?_
  refine l_val E ok (y_fieldAddr fo_25_0 rfl) rfl rfl fun a E => ?_
  refine l_val E ok (y_load one_22 rfl (Holds.own 1 rfl rfl)) rfl rfl fun a E => ?_
  refine l_val E ok (y_lenL sl_22 h2 rfl) rfl rfl fun a E => ?_
  refine l_val E ok (y_geq rfl rfl) rfl rfl fun a E => ?_
  refine l_val E ok (y_pickF rfl rfl) rfl rfl fun a E => ?_
  refine l_val E ok (y_pickT rfl rfl) rfl rfl fun a E => ?_
  refine l_val E ok (y_move rfl) rfl rfl fun a E => ?_
  refine bsplit (decide (x8.A ≥ (c_0.Names.length : Int))) (fun hc132 => ?_) (fun hc132 => ?_)
  · replace hF := cond_t hc132 hF
    replace E := E.upd 52 hc132 rfl
    iterate 25 refine l_skip E rfl rfl fun a E => ?_
    refine l_val E ok (y_pickT rfl rfl) rfl rfl fun a E => ?_
    refine l_val E ok (y_move rfl) rfl rfl fun a E => ?_
    iterate 11 refine l_skip E rfl rfl fun a E => ?_
    refine l_val E ok (y_pickT rfl rfl) rfl rfl fun a E => ?_
    refine l_val E ok (y_move rfl) rfl rfl fun a E => ?_
    iterate 8 refine l_skip E rfl rfl fun a E => ?_
    refine l_val E ok (y_pickT rfl rfl) rfl rfl fun a E => ?_
    refine wpList_nil ?_
    obtain rfl := Option.some.inj hF
    exact ⟨rfl, ⟨ok, E.keep [1, 2, 5, 101]⟩⟩
  replace hF := cond_f hc132 hF
  replace E := E.upd 52 hc132 rfl
  refine l_val E ok (y_move rfl) rfl rfl fun a E => ?_
  refine l_val E ok (y_move rfl) rfl rfl fun a E => ?_
  refine bsplit (x8.Op == 12) (fun hc133 => ?_) (fun hc133 => ?_)
  rotate_left
  · as_aux_lemma =>
      replace hF := cond_f hc133 hF
      replace E := E.upd 54 hc133 rfl
      iterate 22 refine l_skip E rfl rfl fun a E => ?_
      refine l_val E ok (y_pickF rfl rfl) rfl rfl fun a E => ?_
      refine l_val E ok (y_pickF rfl rfl) rfl rfl fun a E => ?_
      refine l_val E ok (y_move rfl) rfl rfl fun a E => ?_
      refine l_val E ok (y_move rfl) rfl rfl fun a E => ?_
      refine l_val E ok (y_not rfl) rfl rfl fun a E => ?_
      refine l_val E ok (y_move rfl) rfl rfl fun a E => ?_
      refine bsplit (!(decide (x8.Op ≤ 10))) (fun hc156 => ?_) (fun hc156 => ?_)
      rotate_left
      · replace hF := cond_f hc156 hF
        replace E := E.upd 82 hc156 rfl
        iterate 2 refine l_skip E rfl rfl fun a E => ?_
        refine l_val E ok (y_pickF rfl rfl) rfl rfl fun a E => ?_
        refine l_val E ok (y_move rfl) rfl rfl fun a E => ?_
        iterate 3 refine l_skip E rfl rfl fun a E => ?_
        refine l_val E ok (y_pickF rfl rfl) rfl rfl fun a E => ?_
        refine l_val E ok (y_pickF rfl rfl) rfl rfl fun a E => ?_
        refine l_val E ok (y_move rfl) rfl rfl fun a E => ?_
        refine l_val E ok (y_fieldAddr fo_35_0 rfl) rfl rfl fun a E => ?_
        refine l_val E ok (y_load one_3 rfl (Holds.own 0 rfl rfl)) rfl rfl fun a E => ?_
        refine l_val E ok (y_neq rfl rfl) rfl rfl fun a E => ?_
        refine l_val E ok (y_move rfl) rfl rfl fun a E => ?_
        refine bsplit (x8.Op != 10) (fun hc161 => ?_) (fun hc161 => ?_)
        · replace hF := cond_t hc161 hF
          replace E := E.upd 96 hc161 rfl
          refine l_val E ok (y_fieldAddr fo_35_2 rfl) rfl rfl fun a E => ?_
          refine l_val E ok (y_load one_3 rfl (Holds.own 0 rfl rfl)) rfl rfl fun a E => ?_
          refine l_val E ok (y_neq rfl rfl) rfl rfl fun a E => ?_
          refine l_val E ok (y_pickT rfl rfl) rfl rfl fun a E => ?_
          refine l_val E ok (y_pickF rfl rfl) rfl rfl fun a E => ?_
          refine wpList_nil ?_
          obtain rfl := Option.some.inj hF
          exact ⟨rfl, ⟨ok, E.keep [1, 2, 5, 101]⟩⟩
        replace hF := cond_f hc161 hF
        replace E := E.upd 96 hc161 rfl
        iterate 3 refine l_skip E rfl rfl fun a E => ?_
        refine l_val E ok (y_pickF rfl rfl) rfl rfl fun a E => ?_
        refine l_val E ok (y_pickF rfl rfl) rfl rfl fun a E => ?_
        refine wpList_nil ?_
        obtain rfl := Option.some.inj hF
        exact ⟨rfl, ⟨ok, E.keep [1, 2, 5, 101]⟩⟩
      replace hF := cond_t hc156 hF
      replace E := E.upd 82 hc156 rfl
      refine l_val E ok (y_move rfl) rfl rfl fun a E => ?_
      refine l_val E ok (y_not rfl) rfl rfl fun a E => ?_
      refine l_val E ok (y_pickT rfl rfl) rfl rfl fun a E => ?_
      refine l_val E ok (y_move rfl) rfl rfl fun a E => ?_
      refine bsplit (!(x8.Op == 12)) (fun hc157 => ?_) (fun hc157 => ?_)
      rotate_left
      · replace hF := cond_f hc157 hF
        replace E := E.upd 86 hc157 rfl
        iterate 3 refine l_skip E rfl rfl fun a E => ?_
        refine l_val E ok (y_pickF rfl rfl) rfl rfl fun a E => ?_
        refine l_val E ok (y_pickF rfl rfl) rfl rfl fun a E => ?_
        refine l_val E ok (y_move rfl) rfl rfl fun a E => ?_
        refine l_val E ok (y_fieldAddr fo_35_0 rfl) rfl rfl fun a E => ?_
        refine l_val E ok (y_load one_3 rfl (Holds.own 0 rfl rfl)) rfl rfl fun a E => ?_
        refine l_val E ok (y_neq rfl rfl) rfl rfl fun a E => ?_
        refine l_val E ok (y_move rfl) rfl rfl fun a E => ?_
        refine bsplit (x8.Op != 10) (fun hc160 => ?_) (fun hc160 => ?_)
        · replace hF := cond_t hc160 hF
          replace E := E.upd 96 hc160 rfl
          refine l_val E ok (y_fieldAddr fo_35_2 rfl) rfl rfl fun a E => ?_
          refine l_val E ok (y_load one_3 rfl (Holds.own 0 rfl rfl)) rfl rfl fun a E => ?_
          refine l_val E ok (y_neq rfl rfl) rfl rfl fun a E => ?_
          refine l_val E ok (y_pickT rfl rfl) rfl rfl fun a E => ?_
          refine l_val E ok (y_pickF rfl rfl) rfl rfl fun a E => ?_
          refine wpList_nil ?_
          obtain rfl := Option.some.inj hF
          exact ⟨rfl, ⟨ok, E.keep [1, 2, 5, 101]⟩⟩
        replace hF := cond_f hc160 hF
        replace E := E.upd 96 hc160 rfl
        iterate 3 refine l_skip E rfl rfl fun a E => ?_
        refine l_val E ok (y_pickF rfl rfl) rfl rfl fun a E => ?_
        refine l_val E ok (y_pickF rfl rfl) rfl rfl fun a E => ?_
        refine wpList_nil ?_
        obtain rfl := Option.some.inj hF
        exact ⟨rfl, ⟨ok, E.keep [1, 2, 5, 101]⟩⟩
      replace hF := cond_t hc157 hF
      replace E := E.upd 86 hc157 rfl
      refine l_val E ok (y_fieldAddr fo_35_1 rfl) rfl rfl fun a E => ?_
      refine l_val E ok (y_load one_3 rfl (Holds.own 0 rfl rfl)) rfl rfl fun a E => ?_
      refine l_val E ok (y_neq rfl rfl) rfl rfl fun a E => ?_
      refine l_val E ok (y_pickT rfl rfl) rfl rfl fun a E => ?_
      refine l_val E ok (y_pickF rfl rfl) rfl rfl fun a E => ?_
      refine l_val E ok (y_move rfl) rfl rfl fun a E => ?_
      refine bsplit (x8.A != 0) (fun hc158 => ?_) (fun hc158 => ?_)
      · replace hF := cond_t hc158 hF
        replace E := E.upd 92 hc158 rfl
        iterate 8 refine l_skip E rfl rfl fun a E => ?_
        refine l_val E ok (y_pickT rfl rfl) rfl rfl fun a E => ?_
        refine wpList_nil ?_
        obtain rfl := Option.some.inj hF
        exact ⟨rfl, ⟨ok, E.keep [1, 2, 5, 101]⟩⟩
      replace hF := cond_f hc158 hF
      replace E := E.upd 92 hc158 rfl
      refine l_val E ok (y_fieldAddr fo_35_0 rfl) rfl rfl fun a E => ?_
      refine l_val E ok (y_load one_3 rfl (Holds.own 0 rfl rfl)) rfl rfl fun a E => ?_
      refine l_val E ok (y_neq rfl rfl) rfl rfl fun a E => ?_
      refine l_val E ok (y_move rfl) rfl rfl fun a E => ?_
      refine bsplit (x8.Op != 10) (fun hc159 => ?_) (fun hc159 => ?_)
      · replace hF := cond_t hc159 hF
        replace E := E.upd 96 hc159 rfl
        refine l_val E ok (y_fieldAddr fo_35_2 rfl) rfl rfl fun a E => ?_
        refine l_val E ok (y_load one_3 rfl (Holds.own 0 rfl rfl)) rfl rfl fun a E => ?_
        refine l_val E ok (y_neq rfl rfl) rfl rfl fun a E => ?_
        refine l_val E ok (y_pickT rfl rfl) rfl rfl fun a E => ?_
        refine l_val E ok (y_pickF rfl rfl) rfl rfl fun a E => ?_
        refine wpList_nil ?_
        obtain rfl := Option.some.inj hF
        exact ⟨rfl, ⟨ok, E.keep [1, 2, 5, 101]⟩⟩
      replace hF := cond_f hc159 hF
      replace E := E.upd 96 hc159 rfl
      iterate 3 refine l_skip E rfl rfl fun a E => ?_
      refine l_val E ok (y_pickF rfl rfl) rfl rfl fun a E => ?_
      refine l_val E ok (y_pickF rfl rfl) rfl rfl fun a E => ?_
      refine wpList_nil ?_
      obtain rfl := Option.some.inj hF
      exact ⟨rfl, ⟨ok, E.keep [1, 2, 5, 101]⟩⟩
  replace hF := cond_t hc133 hF
  replace E := E.upd 54 hc133 rfl
  refine l_val E ok (y_fieldAddr fo_35_1 rfl) rfl rfl fun a E => ?_
  refine l_val E ok (y_load one_3 rfl (Holds.own 0 rfl rfl)) rfl rfl fun a E => ?_
  refine l_val E ok (y_move rfl) rfl rfl fun a E => ?_
  refine l_val E ok (y_leq rfl rfl) rfl rfl fun a E => ?_
  refine l_val E ok (y_move rfl) rfl rfl fun a E => ?_
  refine bsplit (decide (x8.A ≤ i_1)) (fun hc134 => ?_) (fun hc134 => ?_)
  · replace hF := cond_t hc134 hF
    replace E := E.upd 59 hc134 rfl
    iterate 6 refine l_skip E rfl rfl fun a E => ?_
    refine l_val E ok (y_pickT rfl rfl) rfl rfl fun a E => ?_
    refine l_val E ok (y_move rfl) rfl rfl fun a E => ?_
    iterate 8 refine l_skip E rfl rfl fun a E => ?_
    refine l_val E ok (y_pickT rfl rfl) rfl rfl fun a E => ?_
    refine l_val E ok (y_pickT rfl rfl) rfl rfl fun a E => ?_
    refine l_val E ok (y_pickF rfl rfl) rfl rfl fun a E => ?_
    refine l_val E ok (y_move rfl) rfl rfl fun a E => ?_
    iterate 11 refine l_skip E rfl rfl fun a E => ?_
    refine l_val E ok (y_pickT rfl rfl) rfl rfl fun a E => ?_
    refine l_val E ok (y_move rfl) rfl rfl fun a E => ?_
    iterate 8 refine l_skip E rfl rfl fun a E => ?_
    refine l_val E ok (y_pickT rfl rfl) rfl rfl fun a E => ?_
    refine wpList_nil ?_
    obtain rfl := Option.some.inj hF
    exact ⟨rfl, ⟨ok, E.keep [1, 2, 5, 101]⟩⟩
  replace hF := cond_f hc134 hF
  replace E := E.upd 59 hc134 rfl
  refine l_val E ok (y_fieldAddr fo_35_1 rfl) rfl rfl fun a E => ?_
  refine l_val E ok (y_load one_3 rfl (Holds.own 0 rfl rfl)) rfl rfl fun a E => ?_
  refine l_val E ok (y_fieldAddr fo_25_1 rfl) rfl rfl fun a E => ?_
  refine l_val E ok (y_load one_23 rfl (Holds.own 1 rfl rfl)) rfl rfl fun a E => ?_
  refine l_val E ok (y_lenL sl_23 h4 rfl) rfl rfl fun a E => ?_
  refine l_val E ok (y_geq rfl rfl) rfl rfl fun a E => ?_
  refine l_val E ok (y_pickF rfl rfl) rfl rfl fun a E => ?_
  refine l_val E ok (y_move rfl) rfl rfl fun a E => ?_
  refine bsplit (decide (x8.A ≥ (c_0.Ins.length : Int))) (fun hc135 => ?_) (fun hc135 => ?_)
  · replace hF := cond_t hc135 hF
    replace E := E.upd 67 hc135 rfl
    iterate 8 refine l_skip E rfl rfl fun a E => ?_
    refine l_val E ok (y_pickT rfl rfl) rfl rfl fun a E => ?_
    refine l_val E ok (y_pickT rfl rfl) rfl rfl fun a E => ?_
    refine l_val E ok (y_pickF rfl rfl) rfl rfl fun a E => ?_
    refine l_val E ok (y_move rfl) rfl rfl fun a E => ?_
    iterate 11 refine l_skip E rfl rfl fun a E => ?_
    refine l_val E ok (y_pickT rfl rfl) rfl rfl fun a E => ?_
    refine l_val E ok (y_move rfl) rfl rfl fun a E => ?_
    iterate 8 refine l_skip E rfl rfl fun a E => ?_
    refine l_val E ok (y_pickT rfl rfl) rfl rfl fun a E => ?_
    refine wpList_nil ?_
    obtain rfl := Option.some.inj hF
    exact ⟨rfl, ⟨ok, E.keep [1, 2, 5, 101]⟩⟩
  replace hF := cond_f hc135 hF
  replace E := E.upd 67 hc135 rfl
  refine l_val E ok (y_fieldAddr fo_25_1 rfl) rfl rfl fun a E => ?_
  refine l_val E ok (y_load one_23 rfl (Holds.own 1 rfl rfl)) rfl rfl fun a E => ?_
  refine l_val E ok (y_fieldAddr fo_35_1 rfl) rfl rfl fun a E => ?_
  refine l_val E ok (y_load one_3 rfl (Holds.own 0 rfl rfl)) rfl rfl fun a E => ?_
  obtain ⟨x136, e137, hF⟩ := bnd hF
  obtain ⟨b138, o139, es140, hl141, rr142, at143, yy144⟩ := idxAt sl_23 h4 e137 (P := Tryd.prog) (X := .tmp 69) (I := .tmp 71) (kd := .i64) (ev_of E rfl) (ev_of E rfl)
  obtain ⟨rfl, r145, r146, r147, l148⟩ := rr142
  refine l_val E ok (yy144 _ _) rfl rfl fun a E => ?_
  refine l_val E ok (y_fieldAddr fo_35_0 rfl) rfl rfl fun a E => ?_
  refine l_val E ok (y_load one_3 rfl (Holds.ro (At.sub 0 1 at143))) rfl rfl fun a E => ?_
  refine l_val E ok (y_eql rfl rfl) rfl rfl fun a E => ?_
  refine l_val E ok (y_pickF rfl rfl) rfl rfl fun a E => ?_
  refine l_val E ok (y_pickT rfl rfl) rfl rfl fun a E => ?_
  refine l_val E ok (y_pickF rfl rfl) rfl rfl fun a E => ?_
  refine l_val E ok (y_move rfl) rfl rfl fun a E => ?_
  refine bsplit (x136.Op == 11) (fun hc149 => ?_) (fun hc149 => ?_)
  · replace hF := cond_t hc149 hF
    replace E := E.upd 79 hc149 rfl
    iterate 11 refine l_skip E rfl rfl fun a E => ?_
    refine l_val E ok (y_pickT rfl rfl) rfl rfl fun a E => ?_
    refine l_val E ok (y_move rfl) rfl rfl fun a E => ?_
    iterate 8 refine l_skip E rfl rfl fun a E => ?_
    refine l_val E ok (y_pickT rfl rfl) rfl rfl fun a E => ?_
    refine wpList_nil ?_
    obtain rfl := Option.some.inj hF
    exact ⟨rfl, ⟨ok, E.keep [1, 2, 5, 101]⟩⟩
  replace hF := cond_f hc149 hF
  replace E := E.upd 79 hc149 rfl
  refine l_val E ok (y_move rfl) rfl rfl fun a E => ?_
  refine l_val E ok (y_not rfl) rfl rfl fun a E => ?_
  refine l_val E ok (y_move rfl) rfl rfl fun a E => ?_
  refine bsplit (!(decide (x8.Op ≤ 10))) (fun hc150 => ?_) (fun hc150 => ?_)
  rotate_left
  · replace hF := cond_f hc150 hF
    replace E := E.upd 82 hc150 rfl
    iterate 2 refine l_skip E rfl rfl fun a E => ?_
    refine l_val E ok (y_pickF rfl rfl) rfl rfl fun a E => ?_
    refine l_val E ok (y_move rfl) rfl rfl fun a E => ?_
    iterate 3 refine l_skip E rfl rfl fun a E => ?_
    refine l_val E ok (y_pickF rfl rfl) rfl rfl fun a E => ?_
    refine l_val E ok (y_pickF rfl rfl) rfl rfl fun a E => ?_
    refine l_val E ok (y_move rfl) rfl rfl fun a E => ?_
    refine l_val E ok (y_fieldAddr fo_35_0 rfl) rfl rfl fun a E => ?_
    refine l_val E ok (y_load one_3 rfl (Holds.own 0 rfl rfl)) rfl rfl fun a E => ?_
    refine l_val E ok (y_neq rfl rfl) rfl rfl fun a E => ?_
    refine l_val E ok (y_move rfl) rfl rfl fun a E => ?_
    refine bsplit (x8.Op != 10) (fun hc155 => ?_) (fun hc155 => ?_)
    · replace hF := cond_t hc155 hF
      replace E := E.upd 96 hc155 rfl
      refine l_val E ok (y_fieldAddr fo_35_2 rfl) rfl rfl fun a E => ?_
      refine l_val E ok (y_load one_3 rfl (Holds.own 0 rfl rfl)) rfl rfl fun a E => ?_
      refine l_val E ok (y_neq rfl rfl) rfl rfl fun a E => ?_
      refine l_val E ok (y_pickT rfl rfl) rfl rfl fun a E => ?_
      refine l_val E ok (y_pickF rfl rfl) rfl rfl fun a E => ?_
      refine wpList_nil ?_
      obtain rfl := Option.some.inj hF
      exact ⟨rfl, ⟨ok, E.keep [1, 2, 5, 101]⟩⟩
    replace hF := cond_f hc155 hF
    replace E := E.upd 96 hc155 rfl
    iterate 3 refine l_skip E rfl rfl fun a E => ?_
    refine l_val E ok (y_pickF rfl rfl) rfl rfl fun a E => ?_
    refine l_val E ok (y_pickF rfl rfl) rfl rfl fun a E => ?_
    refine wpList_nil ?_
    obtain rfl := Option.some.inj hF
    exact ⟨rfl, ⟨ok, E.keep [1, 2, 5, 101]⟩⟩
  replace hF := cond_t hc150 hF
  replace E := E.upd 82 hc150 rfl
  refine l_val E ok (y_move rfl) rfl rfl fun a E => ?_
  refine l_val E ok (y_not rfl) rfl rfl fun a E => ?_
  refine l_val E ok (y_pickT rfl rfl) rfl rfl fun a E => ?_
  refine l_val E ok (y_move rfl) rfl rfl fun a E => ?_
  refine bsplit (!(x8.Op == 12)) (fun hc151 => ?_) (fun hc151 => ?_)
  rotate_left
  · replace hF := cond_f hc151 hF
    replace E := E.upd 86 hc151 rfl
    iterate 3 refine l_skip E rfl rfl fun a E => ?_
    refine l_val E ok (y_pickF rfl rfl) rfl rfl fun a E => ?_
    refine l_val E ok (y_pickF rfl rfl) rfl rfl fun a E => ?_
    refine l_val E ok (y_move rfl) rfl rfl fun a E => ?_
    refine l_val E ok (y_fieldAddr fo_35_0 rfl) rfl rfl fun a E => ?_
    refine l_val E ok (y_load one_3 rfl (Holds.own 0 rfl rfl)) rfl rfl fun a E => ?_
    refine l_val E ok (y_neq rfl rfl) rfl rfl fun a E => ?_
    refine l_val E ok (y_move rfl) rfl rfl fun a E => ?_
    refine bsplit (x8.Op != 10) (fun hc154 => ?_) (fun hc154 => ?_)
    · replace hF := cond_t hc154 hF
      replace E := E.upd 96 hc154 rfl
      refine l_val E ok (y_fieldAddr fo_35_2 rfl) rfl rfl fun a E => ?_
      refine l_val E ok (y_load one_3 rfl (Holds.own 0 rfl rfl)) rfl rfl fun a E => ?_
      refine l_val E ok (y_neq rfl rfl) rfl rfl fun a E => ?_
      refine l_val E ok (y_pickT rfl rfl) rfl rfl fun a E => ?_
      refine l_val E ok (y_pickF rfl rfl) rfl rfl fun a E => ?_
      refine wpList_nil ?_
      obtain rfl := Option.some.inj hF
      exact ⟨rfl, ⟨ok, E.keep [1, 2, 5, 101]⟩⟩
    replace hF := cond_f hc154 hF
    replace E := E.upd 96 hc154 rfl
    iterate 3 refine l_skip E rfl rfl fun a E => ?_
    refine l_val E ok (y_pickF rfl rfl) rfl rfl fun a E => ?_
    refine l_val E ok (y_pickF rfl rfl) rfl rfl fun a E => ?_
    refine wpList_nil ?_
    obtain rfl := Option.some.inj hF
    exact ⟨rfl, ⟨ok, E.keep [1, 2, 5, 101]⟩⟩
  replace hF := cond_t hc151 hF
  replace E := E.upd 86 hc151 rfl
  refine l_val E ok (y_fieldAddr fo_35_1 rfl) rfl rfl fun a E => ?_
  refine l_val E ok (y_load one_3 rfl (Holds.own 0 rfl rfl)) rfl rfl fun a E => ?_
  refine l_val E ok (y_neq rfl rfl) rfl rfl fun a E => ?_
  refine l_val E ok (y_pickT rfl rfl) rfl rfl fun a E => ?_
  refine l_val E ok (y_pickF rfl rfl) rfl rfl fun a E => ?_
  refine l_val E ok (y_move rfl) rfl rfl fun a E => ?_
  refine bsplit (x8.A != 0) (fun hc152 => ?_) (fun hc152 => ?_)
  · replace hF := cond_t hc152 hF
    replace E := E.upd 92 hc152 rfl
    iterate 8 refine l_skip E rfl rfl fun a E => ?_
    refine l_val E ok (y_pickT rfl rfl) rfl rfl fun a E => ?_
    refine wpList_nil ?_
    obtain rfl := Option.some.inj hF
    exact ⟨rfl, ⟨ok, E.keep [1, 2, 5, 101]⟩⟩
  replace hF := cond_f hc152 hF
  replace E := E.upd 92 hc152 rfl
  refine l_val E ok (y_fieldAddr fo_35_0 rfl) rfl rfl fun a E => ?_
  refine l_val E ok (y_load one_3 rfl (Holds.own 0 rfl rfl)) rfl rfl fun a E => ?_
  refine l_val E ok (y_neq rfl rfl) rfl rfl fun a E => ?_
  refine l_val E ok (y_move rfl) rfl rfl fun a E => ?_
  refine bsplit (x8.Op != 10) (fun hc153 => ?_) (fun hc153 => ?_)
  · replace hF := cond_t hc153 hF
    replace E := E.upd 96 hc153 rfl
    refine l_val E ok (y_fieldAddr fo_35_2 rfl) rfl rfl fun a E => ?_
    refine l_val E ok (y_load one_3 rfl (Holds.own 0 rfl rfl)) rfl rfl fun a E => ?_
    refine l_val E ok (y_neq rfl rfl) rfl rfl fun a E => ?_
    refine l_val E ok (y_pickT rfl rfl) rfl rfl fun a E => ?_
    refine l_val E ok (y_pickF rfl rfl) rfl rfl fun a E => ?_
    refine wpList_nil ?_
    obtain rfl := Option.some.inj hF
    exact ⟨rfl, ⟨ok, E.keep [1, 2, 5, 101]⟩⟩
  replace hF := cond_f hc153 hF
  replace E := E.upd 96 hc153 rfl
  iterate 3 refine l_skip E rfl rfl fun a E => ?_
  refine l_val E ok (y_pickF rfl rfl) rfl rfl fun a E => ?_
  refine l_val E ok (y_pickF rfl rfl) rfl rfl fun a E => ?_
  refine wpList_nil ?_
  obtain rfl := Option.some.inj hF
  exact ⟨rfl, ⟨ok, E.keep [1, 2, 5, 101]⟩⟩

end Go.Proofs.YtmghnmfefpeelaaDoor
