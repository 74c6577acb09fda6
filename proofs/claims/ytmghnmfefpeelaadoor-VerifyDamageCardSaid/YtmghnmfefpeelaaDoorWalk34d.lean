/- The walks of this part: the model's run of each function yields what the plain function says. Printed by gen8.py. -/
import Derived.Test.YtmghnmfefpeelaaDoorExt34d
import Derived.Test.YtmghnmfefpeelaaDoorWalk34a1
import Derived.Test.YtmghnmfefpeelaaDoorWalk34a2
import Derived.Test.YtmghnmfefpeelaaDoorChecked
import Derived.Test.YtmghnmfefpeelaaDoorShelf
set_option linter.unusedVariables false
namespace Go.Proofs.YtmghnmfefpeelaaDoor
open Go.X

def pArr2_Int : Rp Arr2_Int := fun _ cs x => cs = [.int .u16 x.e0, .int .u16 x.e1] ∧ InR .u16 x.e0 ∧ InR .u16 x.e1
theorem mArr2_Int : Mono pArr2_Int := ⟨fun _ h => by
  obtain ⟨e, h0, h1⟩ := h
  exact ⟨e, h0, h1⟩, fun h => by
  obtain ⟨rfl, h0, h1⟩ := h
  exact ⟨rfl, rfl, trivial⟩⟩

theorem Arr2_Int.set_list {a z : Arr2_Int} {i : Int} {x : Int} (h : Arr2_Int.set a i x = some z) : setI a.list i x = some z.list := by
  unfold Arr2_Int.set at h
  cases hs : setI a.list i x with
  | none => rw [hs] at h; cases h
  | some l =>
    rw [hs] at h
    obtain ⟨_, _, hl⟩ := setI_range hs
    have hn : l.length = 2 := by rw [hl, List.length_set]; rfl
    clear hl hs
    match l, hn, h with
    | [x0, x1], _, h => cases h; rfl

theorem agg_25 : aggB Tryd.prog 25 2 = true := by kernel_rfl
theorem art_37 : ArT Tryd.prog 37 36 2 1 := ArT.of (by kernel_rfl)
theorem go_11 : goB Tryd.prog 11 = true := by kernel_rfl
theorem go_8 : goB Tryd.prog 8 = true := by kernel_rfl
theorem go_9 : goB Tryd.prog 9 = true := by kernel_rfl
set_option maxRecDepth 100000 in
theorem inf_3 : ∃ i, Tryd.prog.info? 3 = some i ∧ i.size = 1 := ⟨_, rfl, by kernel_rfl⟩
theorem one_36 : oneB Tryd.prog 36 = true := by kernel_rfl

def calquelaw34_VerifyDamage_R (u : World) (m0 : Mem) (S : Segs) (r : Bool) (a : Act) (w : World) : Prop :=
  Ok u m0 S w ∧ a.defers = [] ∧ RVs Tryd.prog a w [.t 6 (.bool r)]
set_option maxHeartbeats 4000000 in
set_option maxRecDepth 100000 in
theorem calquelaw34_VerifyDamage_w {u : World} {m0 : Mem} {S : Segs} {w : World} (N : Nat) (vc_0 : List Value) (c_0 : Code) (hc_0 : pCode m0 vc_0 c_0) (vmore_1 : List Value) (more_1 : Ins) (hmore_1 : pIns m0 vmore_1 more_1) (vat_2 : List Value) (at_2 : Arr2_Int) (hat_2 : pArr2_Int m0 vat_2 at_2) {r : Bool} (hF : calquelaw34_VerifyDamage N c_0 more_1 at_2 = some r) (hG : Glob u) (ok : Ok u m0 S w) :
    Calls Tryd.prog 4 [.agg vc_0.toArray, .agg vmore_1.toArray, .agg vat_2.toArray].toArray w fun e w' => (e = .returned (.bool r) ∧ Ok u m0 S w') := by
  obtain ⟨c1, c3, rfl, h2, h4⟩ := hc_0
  obtain ⟨rfl, r5, r6, r7, l8⟩ := hmore_1
  obtain ⟨rfl, r9, r10⟩ := hat_2
  have hb0 := ok.base
  have le_m0 := Mem.le.refl m0
  unfold calquelaw34_VerifyDamage at hF
  have fin : ∀ a w, calquelaw34_VerifyDamage_R u m0 S r a w → bodyPost Tryd.prog Tryd.f4 (fun e w' => (e = .returned (.bool r) ∧ Ok u m0 S w')) .ret a w := by
    intro a w h
    obtain ⟨ok, hd, hrv⟩ := h
    exact c_ret2 [.t 6 (.bool r)] hd rfl hrv ⟨rfl, ok⟩
  refine enter Tryd.func4 rfl rfl rfl fun a E => ?_
  refine wp_seq ?_
  refine c_region ?_
  refine l_box E ok rfl rfl rfl fun b11 a w E ok => ?_
  refine l_box E ok rfl rfl rfl fun b12 a w E ok => ?_
  refine l_box E ok rfl rfl rfl fun b13 a w E ok => ?_
  refine l_val E ok (y_assign rfl) rfl rfl fun a E => ?_
  refine wpList_nil ?_
  refine t_norm ?_
  refine wp_seq ?_
  refine wp_seq ?_
  refine c_region ?_
  obtain ⟨r14, e15, hF⟩ := bnd hF
  refine l_call E go_8 rfl (calquelaw34_awake_w N  e15 hG ok) rfl rfl ?_
  rintro _ w ⟨rfl, ok⟩
  refine ⟨_, rfl, fun a E => ?_⟩
  refine l_val E ok (y_not rfl) rfl rfl fun a E => ?_
  refine wpList_nil ?_
  refine t_norm ?_
  refine c_if E rfl (fun hc16 => ?_) (fun hc16 => ?_)
  · replace hF := cond_t hc16 hF
    refine wp_seq ?_
    refine c_region ?_
    refine l_val E ok (y_assign rfl) rfl rfl fun a E => ?_
    refine wpList_nil ?_
    refine t_norm ?_
    refine wp_ret ?_
    refine t_ret ?_
    have hret : calquelaw34_VerifyDamage_R u m0 S false a w := ⟨ok.drop.drop.drop, E.d, ⟨rv_t E rfl, trivial⟩⟩
    obtain rfl := Option.some.inj hF
    exact fin _ _ hret
  replace hF := cond_f hc16 hF
  refine wp_skip ?_
  refine t_norm ?_
  refine wp_seq ?_
  refine wp_seq ?_
  refine c_region ?_
  refine l_val E ok (y_loadAgg (cs := [c1, c3]) agg_25 rfl rfl (Holds.own 2 rfl rfl)) rfl rfl fun a E => ?_
  obtain ⟨r17, e18, hF⟩ := bnd hF
  refine l_call E go_9 rfl (calqueref33_Few_w N _ c_0 ⟨_, _, rfl, h2, h4⟩ e18 hG ok) rfl rfl ?_
  rintro _ w ⟨rfl, ok⟩
  refine ⟨_, rfl, fun a E => ?_⟩
  refine l_val E ok (y_not rfl) rfl rfl fun a E => ?_
  refine l_val E ok (y_move rfl) rfl rfl fun a E => ?_
  refine bsplit (!r17) (fun hc19 => ?_) (fun hc19 => ?_)
  · replace hF := cond_t hc19 hF
    replace E := E.upd 25 hc19 rfl
    refine l_skip E rfl rfl fun a E => ?_
    refine l_skip E rfl rfl fun a E => ?_
    refine l_skip E rfl rfl fun a E => ?_
    refine l_skip E rfl rfl fun a E => ?_
    refine l_val E ok (y_pickT rfl rfl) rfl rfl fun a E => ?_
    refine wpList_nil ?_
    refine t_norm ?_
    refine c_if E rfl (fun _ => ?_) (fun h => by cases h)
    refine wp_seq ?_
    refine c_region ?_
    refine l_val E ok (y_assign rfl) rfl rfl fun a E => ?_
    refine wpList_nil ?_
    refine t_norm ?_
    refine wp_ret ?_
    refine t_ret ?_
    have hret : calquelaw34_VerifyDamage_R u m0 S true a w := ⟨ok.drop.drop.drop, E.d, ⟨rv_t E rfl, trivial⟩⟩
    obtain rfl := Option.some.inj hF
    exact fin _ _ hret
  replace hF := cond_f hc19 hF
  replace E := E.upd 25 hc19 rfl
  refine l_val E ok (y_fieldAddr fo_35_3 rfl) rfl rfl fun a E => ?_
  refine l_val E ok (y_load one_9 rfl (Holds.own 1 rfl rfl)) rfl rfl fun a E => ?_
  refine l_val E ok (y_slen Tryd.underlying9 rfl) rfl rfl fun a E => ?_
  refine l_val E ok (y_gtr rfl rfl) rfl rfl fun a E => ?_
  refine l_val E ok (y_pickF rfl rfl) rfl rfl fun a E => ?_
  refine wpList_nil ?_
  refine t_norm ?_
  refine c_if E rfl (fun hc20 => ?_) (fun hc20 => ?_)
  · replace hF := cond_t hc20 hF
    refine wp_seq ?_
    refine c_region ?_
    refine l_val E ok (y_assign rfl) rfl rfl fun a E => ?_
    refine wpList_nil ?_
    refine t_norm ?_
    refine wp_ret ?_
    refine t_ret ?_
    have hret : calquelaw34_VerifyDamage_R u m0 S true a w := ⟨ok.drop.drop.drop, E.d, ⟨rv_t E rfl, trivial⟩⟩
    obtain rfl := Option.some.inj hF
    exact fin _ _ hret
  replace hF := cond_f hc20 hF
  refine wp_skip ?_
  refine t_norm ?_
  refine wp_seq ?_
  refine c_region ?_
  refine l_val E ok (y_loadAgg (cs := [c1, c3]) agg_25 rfl rfl (Holds.own 2 rfl rfl)) rfl rfl fun a E => ?_
  obtain ⟨r21, e22, hF⟩ := bnd hF
  refine l_call E go_11 rfl (calquelaw33_Own_w N _ c_0 ⟨_, _, rfl, h2, h4⟩ e22 hG ok) rfl rfl ?_
  rintro _ w ⟨m23, vs24, rfl, hle, ok, h25⟩
  have le_m0 := le_m0.trans hle
  have h2 := (mL mS).up hle h2
  have h4 := (mL mIns).up hle h4
  obtain ⟨c26, c28, rfl, h27, h29⟩ := h25
  refine ⟨_, rfl, fun a E => ?_⟩
  refine l_alloc E ok zero_31 rfl rfl fun b30 a w E ok => ?_
  refine l_storeB E ok 0 rfl rfl rfl inf_31 rfl rfl ⟨(pL_one h27), (pL_one h29), trivial⟩ rfl rfl fun w ok => ?_
  refine wpList_nil ?_
  refine t_norm ?_
  refine wp_seq ?_
  refine wp_seq ?_
  refine c_region ?_
  refine l_val E ok (y_loadAgg (cs := [c26, c28]) agg_31 rfl rfl (Holds.own 0 rfl rfl)) rfl rfl fun a E => ?_
  obtain ⟨r31, e32, hF⟩ := bnd hF
  refine l_call E go_13 rfl (verify_Check_w N _ r21 ⟨_, _, rfl, h27, h29⟩ e32 hG ok) rfl rfl ?_
  rintro _ w ⟨⟨rfl, ok⟩, r33, r34⟩
  refine ⟨_, rfl, fun a E => ?_⟩
  refine l_val E ok (y_move rfl) rfl rfl fun a E => ?_
  refine l_val E ok (y_extract rfl rfl) rfl rfl fun a E => ?_
  refine l_val E ok (y_extract rfl rfl) rfl rfl fun a E => ?_
  refine l_val E ok (y_assign rfl) rfl rfl fun a E => ?_
  refine l_val E ok (y_assign rfl) rfl rfl fun a E => ?_
  refine wpList_nil ?_
  refine t_norm ?_
  refine wp_seq ?_
  refine c_region ?_
  refine l_val E ok (y_move rfl) rfl rfl fun a E => ?_
  refine l_val E ok (y_neq rfl rfl) rfl rfl fun a E => ?_
  refine l_val E ok (y_move rfl) rfl rfl fun a E => ?_
  refine bsplit (r31.2 != 0) (fun hc35 => ?_) (fun hc35 => ?_)
  · replace hF := cond_t hc35 hF
    replace E := E.upd 40 hc35 rfl
    refine l_skip E rfl rfl fun a E => ?_
    refine l_skip E rfl rfl fun a E => ?_
    refine l_skip E rfl rfl fun a E => ?_
    refine l_skip E rfl rfl fun a E => ?_
    refine l_val E ok (y_pickT rfl rfl) rfl rfl fun a E => ?_
    refine wpList_nil ?_
    refine t_norm ?_
    refine c_if E rfl (fun _ => ?_) (fun h => by cases h)
    refine wp_seq ?_
    refine c_region ?_
    refine l_val E ok (y_move rfl) rfl rfl fun a E => ?_
    refine l_val E ok (y_neq rfl rfl) rfl rfl fun a E => ?_
    refine l_val E ok (y_assign rfl) rfl rfl fun a E => ?_
    refine wpList_nil ?_
    refine t_norm ?_
    refine wp_ret ?_
    refine t_ret ?_
    have hret : calquelaw34_VerifyDamage_R u m0 S (r31.2 != 0) a w := ⟨(ok.drop.drop.drop.drop).down hb0 le_m0, E.d, ⟨rv_t E rfl, trivial⟩⟩
    obtain rfl := Option.some.inj hF
    exact fin _ _ hret
  replace hF := cond_f hc35 hF
  replace E := E.upd 40 hc35 rfl
  refine l_val E ok (y_fieldAddr fo_31_1 rfl) rfl rfl fun a E => ?_
  refine l_val E ok (y_load one_29 rfl (Holds.own 0 rfl rfl)) rfl rfl fun a E => ?_
  refine l_val E ok (y_lenL sl_29 h29 rfl) rfl rfl fun a E => ?_
  refine l_val E ok (y_eql rfl rfl) rfl rfl fun a E => ?_
  refine l_val E ok (y_pickF rfl rfl) rfl rfl fun a E => ?_
  refine wpList_nil ?_
  refine t_norm ?_
  refine c_if E rfl (fun hc36 => ?_) (fun hc36 => ?_)
  · replace hF := cond_t hc36 hF
    refine wp_seq ?_
    refine c_region ?_
    refine l_val E ok (y_move rfl) rfl rfl fun a E => ?_
    refine l_val E ok (y_neq rfl rfl) rfl rfl fun a E => ?_
    refine l_val E ok (y_assign rfl) rfl rfl fun a E => ?_
    refine wpList_nil ?_
    refine t_norm ?_
    refine wp_ret ?_
    refine t_ret ?_
    have hret : calquelaw34_VerifyDamage_R u m0 S (r31.2 != 0) a w := ⟨(ok.drop.drop.drop.drop).down hb0 le_m0, E.d, ⟨rv_t E rfl, trivial⟩⟩
    obtain rfl := Option.some.inj hF
    exact fin _ _ hret
  replace hF := cond_f hc36 hF
  refine wp_skip ?_
  refine t_norm ?_
  refine wp_seq ?_
  obtain ⟨o37, hJ, hF⟩ := bnd hF
  refine c_mono (Q' := fun e a w => e = .normal ∧ ∃ b42 c38 c40, Ok u m23 ([(b42, Obj.cells [c38, c40].toArray 31 (0, 0))] :: [(b30, Obj.cells [c26, c28].toArray 31 (0, 0))] :: [(b13, Obj.cells [(Value.int .u16 at_2.e0), (Value.int .u16 at_2.e1)].toArray 37 (0, 0))] :: [(b12, Obj.cells [(Value.int .i64 more_1.Op), (Value.int .i64 more_1.A), (Value.int .i64 more_1.B), (Value.string (bs more_1.S))].toArray 35 (0, 0))] :: [(b11, Obj.cells [c1, c3].toArray 25 (0, 0))] :: S) w ∧ Env 137 a [(4, (Value.pointer (some ⟨b12, 0, none⟩))), (5, (Value.pointer (some ⟨b13, 0, none⟩))), (7, (Value.pointer (some ⟨b30, 0, none⟩))), (10, (Value.pointer (some ⟨b42, 0, none⟩)))] ∧ (pL 1 pS) m23 [c38] o37.Names ∧ (pL 4 pIns) m23 [c40] o37.Ins) ?_ ?_
  · replace hF := hJ
    clear hJ
    obtain ⟨l43, e44, hF⟩ := bnd hF
    obtain rfl := Option.some.inj hF
    refine k_begin [] (Cls u m23 ([(b30, Obj.cells [c26, c28].toArray 31 (0, 0))] :: [(b13, Obj.cells [(Value.int .u16 at_2.e0), (Value.int .u16 at_2.e1)].toArray 37 (0, 0))] :: [(b12, Obj.cells [(Value.int .i64 more_1.Op), (Value.int .i64 more_1.A), (Value.int .i64 more_1.B), (Value.string (bs more_1.S))].toArray 35 (0, 0))] :: [(b11, Obj.cells [c1, c3].toArray 25 (0, 0))] :: [])) (Cls u m23 ([(b30, Obj.cells [c26, c28].toArray 31 (0, 0))] :: [(b13, Obj.cells [(Value.int .u16 at_2.e0), (Value.int .u16 at_2.e1)].toArray 37 (0, 0))] :: [(b12, Obj.cells [(Value.int .i64 more_1.Op), (Value.int .i64 more_1.A), (Value.int .i64 more_1.B), (Value.string (bs more_1.S))].toArray 35 (0, 0))] :: [(b11, Obj.cells [c1, c3].toArray 25 (0, 0))] :: [])) (by kernel_rfl) ?_
    intro w hw
    replace ok := okdrew ok hw
    clear hw
    have le_m23 := Mem.le.refl m23
    refine k_next (cl1 ⟨m23, _, le_m23, ok, ⟨memAt 0 rfl, memAt 1 rfl, memAt 2 rfl, memAt 3 rfl, trivial⟩⟩ ⟨m23, _, le_m23, ok, ⟨memAt 0 rfl, memAt 1 rfl, memAt 2 rfl, memAt 3 rfl, trivial⟩⟩) fun hT => ?_
    refine k_take 0 E rfl (by kernel_rfl) nP hT (y_fieldAddr fo_31_0 rfl) rfl rfl fun a E => ?_
    refine k_take 1 E rfl (by kernel_rfl) nP hT (y_load one_22 rfl (Holds.cown 0 rfl rfl)) rfl rfl fun a E => ?_
    refine k_take 2 E rfl (by kernel_rfl) nP hT (y_fieldAddr fo_31_1 rfl) rfl rfl fun a E => ?_
    refine k_take 3 E rfl (by kernel_rfl) nP hT (y_load one_29 rfl (Holds.cown 0 rfl rfl)) rfl rfl fun a E => ?_
    refine k_take 4 E rfl (by kernel_rfl) nP hT (y_fieldAddr fo_31_1 rfl) rfl rfl fun a E => ?_
    refine k_take 5 E rfl (by kernel_rfl) nP hT (y_load one_29 rfl (Holds.cown 0 rfl rfl)) rfl rfl fun a E => ?_
    refine k_take 6 E rfl (by kernel_rfl) nP hT (y_lenL sl_29 h29 rfl) rfl rfl fun a E => ?_
    refine k_take 7 E rfl (by kernel_rfl) nP hT (y_subw rfl rfl) rfl rfl fun a E => ?_
    obtain ⟨c49, h50, yy51⟩ := pL_slice sl_29 h29 e44 (P := Tryd.prog) (X := .tmp 51) (lov := none) (hiv := (some (.tmp 55))) (ev_of E rfl) (sb_of E rfl) (sb_of E ⟨_, rfl⟩)
    refine k_take 8 E rfl (by kernel_rfl) nP hT (yy51 _ _) rfl rfl fun a E => ?_
    refine k_take 9 E rfl (by kernel_rfl) nP hT (y_build (ps := [(0, .tmp 49), (1, .tmp 56)]) (qs := [(0, [c26]), (1, [c49])]) (cs := [c26, c49]) zero_31 places_31 rfl ⟨rfl, (pL_cells h27), rfl, ⟨rfl, (pL_cells h50), rfl, trivial⟩⟩ rfl) rfl rfl fun a E => ?_
    refine k_all [10] (by kernel_rfl) rfl (one_c ?_)
    · refine wpOp_of_list (o := _) rfl ?_
      refine l_alloc E ok zero_31 rfl rfl fun b52 a w E ok => ?_
      refine wpList_nil ?_
      refine t_norm ?_
      refine k_next (cl1 ⟨m23, _, le_m23, ok, ⟨memAt 1 rfl, memAt 2 rfl, memAt 3 rfl, memAt 4 rfl, trivial⟩⟩ ⟨m23, _, le_m23, ok, ⟨memAt 1 rfl, memAt 2 rfl, memAt 3 rfl, memAt 4 rfl, trivial⟩⟩) fun hT => ?_
      refine k_all [11] (by kernel_rfl) rfl (one_c ?_)
      · refine wpOp_of_list (o := _) rfl ?_
        refine l_storeB E ok 0 rfl rfl rfl inf_31 rfl rfl ⟨(pL_one h27), (pL_one h50), trivial⟩ rfl rfl fun w ok => ?_
        refine wpList_nil ?_
        refine t_norm ?_
        refine k_next (cl1 ⟨m23, _, le_m23, ok, ⟨memAt 1 rfl, memAt 2 rfl, memAt 3 rfl, memAt 4 rfl, trivial⟩⟩ ⟨m23, _, le_m23, ok, ⟨memAt 1 rfl, memAt 2 rfl, memAt 3 rfl, memAt 4 rfl, trivial⟩⟩) fun hT => ?_
        refine k_done (by kernel_rfl) ?_
        exact ⟨rfl, ⟨b52, c26, c49, ok, E.keep [4, 5, 7, 10], h27, h50⟩⟩
  clear hJ
  intro e a w hO
  obtain ⟨rfl, b57, c53, c55, ok, E, h54, h56⟩ := hO
  refine t_norm ?_
  refine wp_seq ?_
  obtain ⟨o58, hJ, hF⟩ := bnd hF
  refine c_mono (Q' := fun e a w => e = .normal ∧ ∃ b64 c59 c61 M62, Ok u m23 ([(b64, Obj.cells [c59, c61].toArray 31 (0, 0))] :: M62 :: [(b57, Obj.cells [c53, c55].toArray 31 (0, 0))] :: [(b30, Obj.cells [c26, c28].toArray 31 (0, 0))] :: [(b13, Obj.cells [(Value.int .u16 at_2.e0), (Value.int .u16 at_2.e1)].toArray 37 (0, 0))] :: [(b12, Obj.cells [(Value.int .i64 more_1.Op), (Value.int .i64 more_1.A), (Value.int .i64 more_1.B), (Value.string (bs more_1.S))].toArray 35 (0, 0))] :: [(b11, Obj.cells [c1, c3].toArray 25 (0, 0))] :: S) w ∧ Env 137 a [(5, (Value.pointer (some ⟨b13, 0, none⟩))), (7, (Value.pointer (some ⟨b30, 0, none⟩))), (10, (Value.pointer (some ⟨b57, 0, none⟩))), (11, (Value.pointer (some ⟨b64, 0, none⟩)))] ∧ (pL 1 pS) m23 [c59] o58.Names ∧ ORow 41 4 pIns m23 c61 o58.Ins M62) ?_ ?_
  · as_aux_lemma =>
      replace hF := hJ
      clear hJ
      obtain ⟨l68, e69, hF⟩ := bnd hF
      obtain ⟨l76, e77, hF⟩ := bnd hF
      obtain rfl := Option.some.inj hF
      refine k_begin [] (Cls u m23 ([(b57, Obj.cells [c53, c55].toArray 31 (0, 0))] :: [(b30, Obj.cells [c26, c28].toArray 31 (0, 0))] :: [(b13, Obj.cells [(Value.int .u16 at_2.e0), (Value.int .u16 at_2.e1)].toArray 37 (0, 0))] :: [(b12, Obj.cells [(Value.int .i64 more_1.Op), (Value.int .i64 more_1.A), (Value.int .i64 more_1.B), (Value.string (bs more_1.S))].toArray 35 (0, 0))] :: [(b11, Obj.cells [c1, c3].toArray 25 (0, 0))] :: [])) (Cls u m23 ([(b57, Obj.cells [c53, c55].toArray 31 (0, 0))] :: [(b30, Obj.cells [c26, c28].toArray 31 (0, 0))] :: [(b13, Obj.cells [(Value.int .u16 at_2.e0), (Value.int .u16 at_2.e1)].toArray 37 (0, 0))] :: [(b12, Obj.cells [(Value.int .i64 more_1.Op), (Value.int .i64 more_1.A), (Value.int .i64 more_1.B), (Value.string (bs more_1.S))].toArray 35 (0, 0))] :: [(b11, Obj.cells [c1, c3].toArray 25 (0, 0))] :: [])) (by kernel_rfl) ?_
      intro w hw
      replace ok := okdrew ok hw
      clear hw
      have le_m23 := Mem.le.refl m23
      refine k_next (cl1 ⟨m23, _, le_m23, ok, ⟨memAt 0 rfl, memAt 1 rfl, memAt 2 rfl, memAt 3 rfl, memAt 4 rfl, trivial⟩⟩ ⟨m23, _, le_m23, ok, ⟨memAt 0 rfl, memAt 1 rfl, memAt 2 rfl, memAt 3 rfl, memAt 4 rfl, trivial⟩⟩) fun hT => ?_
      refine k_take 0 E rfl (by kernel_rfl) nP hT (y_fieldAddr fo_31_0 rfl) rfl rfl fun a E => ?_
      refine k_take 1 E rfl (by kernel_rfl) nP hT (y_load one_22 rfl (Holds.cown 1 rfl rfl)) rfl rfl fun a E => ?_
      refine k_take 3 E rfl (by kernel_rfl) nP hT (y_fieldAddr fo_31_1 rfl) rfl rfl fun a E => ?_
      refine k_take 4 E rfl (by kernel_rfl) nP hT (y_load one_29 rfl (Holds.cown 1 rfl rfl)) rfl rfl fun a E => ?_
      refine k_take 6 E rfl (by kernel_rfl) nP hT (y_loadAgg (cs := [(Value.int .i64 more_1.Op), (Value.int .i64 more_1.A), (Value.int .i64 more_1.B), (Value.string (bs more_1.S))]) agg_35 rfl rfl (Holds.cown 3 rfl rfl)) rfl rfl fun a E => ?_
      refine k_all [2, 7, 10] (by kernel_rfl) rfl (all_c ?_ (all_c ?_ (all_c ?_ (all_n))))
      · as_aux_lemma =>
          refine wpOp_of_list (o := _) rfl ?_
          refine l_slit (R := pIns) (xo := []) (xs := ([] : List (Ins))) E ok sl_29 zero_41 rfl trivial rfl rfl rfl rfl fun c82 M83 a w E ok h84 => ?_
          refine wpList_nil ?_
          refine t_norm ?_
          refine k_next (cl1 ⟨m23, _, le_m23, ok, ⟨memAt 1 rfl, memAt 2 rfl, memAt 3 rfl, memAt 4 rfl, memAt 5 rfl, trivial⟩⟩ ⟨m23, _, le_m23, ok, ⟨memAt 1 rfl, memAt 2 rfl, memAt 3 rfl, memAt 4 rfl, memAt 5 rfl, trivial⟩⟩) fun hT => ?_
          refine k_all [5, 7, 10] (by kernel_rfl) rfl (all_c ?_ (all_c ?_ (all_c ?_ (all_n))))
          · refine wpOp_of_list (o := _) rfl ?_
            refine l_app (R := pIns) E ok 0 mIns sl_29 Tryd.underlying29 rfl h84 (SrcOK.ofL h29 ok) e69 ⟨_, zero_41, rfl⟩ rfl rfl rfl rfl fun c85 M86 a w E ok h87 => ?_
            refine wpList_nil ?_
            refine t_norm ?_
            refine k_next (cl1 ⟨m23, _, le_m23, ok, ⟨memAt 1 rfl, memAt 2 rfl, memAt 3 rfl, memAt 4 rfl, memAt 5 rfl, trivial⟩⟩ ⟨m23, _, le_m23, ok, ⟨memAt 1 rfl, memAt 2 rfl, memAt 3 rfl, memAt 4 rfl, memAt 5 rfl, trivial⟩⟩) fun hT => ?_
            refine k_all [7, 10] (by kernel_rfl) rfl (all_c ?_ (all_c ?_ (all_n)))
            rotate_left
            · refine wpOp_of_list (o := _) rfl ?_
              refine l_alloc E ok zero_31 rfl rfl fun b99 a w E ok => ?_
              refine wpList_nil ?_
              refine t_norm ?_
              refine k_next (cl1 ⟨m23, _, le_m23, ok, ⟨memAt 2 rfl, memAt 3 rfl, memAt 4 rfl, memAt 5 rfl, memAt 6 rfl, trivial⟩⟩ ⟨m23, _, le_m23, ok, ⟨memAt 2 rfl, memAt 3 rfl, memAt 4 rfl, memAt 5 rfl, memAt 6 rfl, trivial⟩⟩) fun hT => ?_
              refine k_all [7] (by kernel_rfl) rfl (one_c ?_)
              · refine wpOp_of_list (o := _) rfl ?_
                refine l_slit (R := pIns) (xo := [.tmp 64]) (xs := ([more_1] : List (Ins))) E ok sl_29 zero_41 rfl ⟨⟨_, rfl, rfl, ⟨rfl, r5, r6, r7, l8⟩⟩, trivial⟩ rfl rfl rfl rfl fun c100 M101 a w E ok h102 => ?_
                refine wpList_nil ?_
                refine t_norm ?_
                refine k_next (cl1 ⟨m23, _, le_m23, ok, ⟨memAt 3 rfl, memAt 4 rfl, memAt 5 rfl, memAt 6 rfl, memAt 7 rfl, trivial⟩⟩ ⟨m23, _, le_m23, ok, ⟨memAt 3 rfl, memAt 4 rfl, memAt 5 rfl, memAt 6 rfl, memAt 7 rfl, trivial⟩⟩) fun hT => ?_
                refine k_all [8] (by kernel_rfl) rfl (one_c ?_)
                · refine wpOp_of_list (o := _) rfl ?_
                  refine l_app (R := pIns) E ok 2 mIns sl_29 Tryd.underlying29 rfl h87 (SrcOK.ofRow h102 0 rfl ok) e77 ⟨_, zero_41, rfl⟩ rfl rfl rfl rfl fun c103 M104 a w E ok h105 => ?_
                  refine wpList_nil ?_
                  refine t_norm ?_
                  refine k_next (cl1 ⟨m23, _, le_m23, ok, ⟨memAt 3 rfl, memAt 4 rfl, memAt 5 rfl, memAt 6 rfl, memAt 7 rfl, trivial⟩⟩ ⟨m23, _, le_m23, ok, ⟨memAt 3 rfl, memAt 4 rfl, memAt 5 rfl, memAt 6 rfl, memAt 7 rfl, trivial⟩⟩) fun hT => ?_
                  refine k_take 9 E rfl (by kernel_rfl) nP hT (y_build (ps := [(0, .tmp 59), (1, .tmp 66)]) (qs := [(0, [c26]), (1, [c103])]) (cs := [c26, c103]) zero_31 places_31 rfl ⟨rfl, (pL_cells h27), rfl, ⟨rfl, (ORow.cells h105), rfl, trivial⟩⟩ rfl) rfl rfl fun a E => ?_
                  refine k_all [11] (by kernel_rfl) rfl (one_c ?_)
                  · refine wpOp_of_list (o := _) rfl ?_
                    refine l_storeB E ok 1 rfl rfl rfl inf_31 rfl rfl ⟨(pL_one h27), (ORow.one h105), trivial⟩ rfl rfl fun w ok => ?_
                    refine wpList_nil ?_
                    refine t_norm ?_
                    refine k_next (cl1 ⟨m23, _, le_m23, ok, ⟨memAt 3 rfl, memAt 4 rfl, memAt 5 rfl, memAt 6 rfl, memAt 7 rfl, trivial⟩⟩ ⟨m23, _, le_m23, ok, ⟨memAt 3 rfl, memAt 4 rfl, memAt 5 rfl, memAt 6 rfl, memAt 7 rfl, trivial⟩⟩) fun hT => ?_
                    refine k_done (by kernel_rfl) ?_
                    exact ⟨rfl, ⟨b99, c26, c103, M104, (ok.pk 8 [1, 2, 3, 4, 5, 6, 7] rfl (by decide)), E.keep [5, 7, 10, 11], h27, h105⟩⟩
            refine wpOp_of_list (o := _) rfl ?_
            refine l_slit (R := pIns) (xo := [.tmp 64]) (xs := ([more_1] : List (Ins))) E ok sl_29 zero_41 rfl ⟨⟨_, rfl, rfl, ⟨rfl, r5, r6, r7, l8⟩⟩, trivial⟩ rfl rfl rfl rfl fun c88 M89 a w E ok h90 => ?_
            refine wpList_nil ?_
            refine t_norm ?_
            refine k_next (cl1 ⟨m23, _, le_m23, ok, ⟨memAt 2 rfl, memAt 3 rfl, memAt 4 rfl, memAt 5 rfl, memAt 6 rfl, trivial⟩⟩ ⟨m23, _, le_m23, ok, ⟨memAt 2 rfl, memAt 3 rfl, memAt 4 rfl, memAt 5 rfl, memAt 6 rfl, trivial⟩⟩) fun hT => ?_
            refine k_all [8, 10] (by kernel_rfl) rfl (all_c ?_ (all_c ?_ (all_n)))
            · refine wpOp_of_list (o := _) rfl ?_
              refine l_app (R := pIns) E ok 1 mIns sl_29 Tryd.underlying29 rfl h87 (SrcOK.ofRow h90 0 rfl ok) e77 ⟨_, zero_41, rfl⟩ rfl rfl rfl rfl fun c91 M92 a w E ok h93 => ?_
              refine wpList_nil ?_
              refine t_norm ?_
              refine k_next (cl1 ⟨m23, _, le_m23, ok, ⟨memAt 2 rfl, memAt 3 rfl, memAt 4 rfl, memAt 5 rfl, memAt 6 rfl, trivial⟩⟩ ⟨m23, _, le_m23, ok, ⟨memAt 2 rfl, memAt 3 rfl, memAt 4 rfl, memAt 5 rfl, memAt 6 rfl, trivial⟩⟩) fun hT => ?_
              refine k_take 9 E rfl (by kernel_rfl) nP hT (y_build (ps := [(0, .tmp 59), (1, .tmp 66)]) (qs := [(0, [c26]), (1, [c91])]) (cs := [c26, c91]) zero_31 places_31 rfl ⟨rfl, (pL_cells h27), rfl, ⟨rfl, (ORow.cells h93), rfl, trivial⟩⟩ rfl) rfl rfl fun a E => ?_
              refine k_all [10] (by kernel_rfl) rfl (one_c ?_)
              · refine wpOp_of_list (o := _) rfl ?_
                refine l_alloc E ok zero_31 rfl rfl fun b94 a w E ok => ?_
                refine wpList_nil ?_
                refine t_norm ?_
                refine k_next (cl1 ⟨m23, _, le_m23, ok, ⟨memAt 3 rfl, memAt 4 rfl, memAt 5 rfl, memAt 6 rfl, memAt 7 rfl, trivial⟩⟩ ⟨m23, _, le_m23, ok, ⟨memAt 3 rfl, memAt 4 rfl, memAt 5 rfl, memAt 6 rfl, memAt 7 rfl, trivial⟩⟩) fun hT => ?_
                refine k_all [11] (by kernel_rfl) rfl (one_c ?_)
                · refine wpOp_of_list (o := _) rfl ?_
                  refine l_storeB E ok 0 rfl rfl rfl inf_31 rfl rfl ⟨(pL_one h27), (ORow.one h93), trivial⟩ rfl rfl fun w ok => ?_
                  refine wpList_nil ?_
                  refine t_norm ?_
                  refine k_next (cl1 ⟨m23, _, le_m23, ok, ⟨memAt 3 rfl, memAt 4 rfl, memAt 5 rfl, memAt 6 rfl, memAt 7 rfl, trivial⟩⟩ ⟨m23, _, le_m23, ok, ⟨memAt 3 rfl, memAt 4 rfl, memAt 5 rfl, memAt 6 rfl, memAt 7 rfl, trivial⟩⟩) fun hT => ?_
                  refine k_done (by kernel_rfl) ?_
                  exact ⟨rfl, ⟨b94, c26, c91, M92, (ok.pk 8 [0, 2, 3, 4, 5, 6, 7] rfl (by decide)), E.keep [5, 7, 10, 11], h27, h93⟩⟩
            refine wpOp_of_list (o := _) rfl ?_
            refine l_alloc E ok zero_31 rfl rfl fun b95 a w E ok => ?_
            refine wpList_nil ?_
            refine t_norm ?_
            refine k_next (cl1 ⟨m23, _, le_m23, ok, ⟨memAt 3 rfl, memAt 4 rfl, memAt 5 rfl, memAt 6 rfl, memAt 7 rfl, trivial⟩⟩ ⟨m23, _, le_m23, ok, ⟨memAt 3 rfl, memAt 4 rfl, memAt 5 rfl, memAt 6 rfl, memAt 7 rfl, trivial⟩⟩) fun hT => ?_
            refine k_all [8] (by kernel_rfl) rfl (one_c ?_)
            · refine wpOp_of_list (o := _) rfl ?_
              refine l_app (R := pIns) E ok 2 mIns sl_29 Tryd.underlying29 rfl h87 (SrcOK.ofRow h90 1 rfl ok) e77 ⟨_, zero_41, rfl⟩ rfl rfl rfl rfl fun c96 M97 a w E ok h98 => ?_
              refine wpList_nil ?_
              refine t_norm ?_
              refine k_next (cl1 ⟨m23, _, le_m23, ok, ⟨memAt 3 rfl, memAt 4 rfl, memAt 5 rfl, memAt 6 rfl, memAt 7 rfl, trivial⟩⟩ ⟨m23, _, le_m23, ok, ⟨memAt 3 rfl, memAt 4 rfl, memAt 5 rfl, memAt 6 rfl, memAt 7 rfl, trivial⟩⟩) fun hT => ?_
              refine k_take 9 E rfl (by kernel_rfl) nP hT (y_build (ps := [(0, .tmp 59), (1, .tmp 66)]) (qs := [(0, [c26]), (1, [c96])]) (cs := [c26, c96]) zero_31 places_31 rfl ⟨rfl, (pL_cells h27), rfl, ⟨rfl, (ORow.cells h98), rfl, trivial⟩⟩ rfl) rfl rfl fun a E => ?_
              refine k_all [11] (by kernel_rfl) rfl (one_c ?_)
              · refine wpOp_of_list (o := _) rfl ?_
                refine l_storeB E ok 0 rfl rfl rfl inf_31 rfl rfl ⟨(pL_one h27), (ORow.one h98), trivial⟩ rfl rfl fun w ok => ?_
                refine wpList_nil ?_
                refine t_norm ?_
                refine k_next (cl1 ⟨m23, _, le_m23, ok, ⟨memAt 3 rfl, memAt 4 rfl, memAt 5 rfl, memAt 6 rfl, memAt 7 rfl, trivial⟩⟩ ⟨m23, _, le_m23, ok, ⟨memAt 3 rfl, memAt 4 rfl, memAt 5 rfl, memAt 6 rfl, memAt 7 rfl, trivial⟩⟩) fun hT => ?_
                refine k_done (by kernel_rfl) ?_
                exact ⟨rfl, ⟨b95, c26, c96, M97, (ok.pk 8 [0, 2, 3, 4, 5, 6, 7] rfl (by decide)), E.keep [5, 7, 10, 11], h27, h98⟩⟩
          · refine wpOp_of_list (o := _) rfl ?_
            refine l_slit (R := pIns) (xo := [.tmp 64]) (xs := ([more_1] : List (Ins))) E ok sl_29 zero_41 rfl ⟨⟨_, rfl, rfl, ⟨rfl, r5, r6, r7, l8⟩⟩, trivial⟩ rfl rfl rfl rfl fun c106 M107 a w E ok h108 => ?_
            refine wpList_nil ?_
            refine t_norm ?_
            refine k_next (cl1 ⟨m23, _, le_m23, ok, ⟨memAt 2 rfl, memAt 3 rfl, memAt 4 rfl, memAt 5 rfl, memAt 6 rfl, trivial⟩⟩ ⟨m23, _, le_m23, ok, ⟨memAt 2 rfl, memAt 3 rfl, memAt 4 rfl, memAt 5 rfl, memAt 6 rfl, trivial⟩⟩) fun hT => ?_
            refine k_all [5, 10] (by kernel_rfl) rfl (all_c ?_ (all_c ?_ (all_n)))
            rotate_left
            · refine wpOp_of_list (o := _) rfl ?_
              refine l_alloc E ok zero_31 rfl rfl fun b120 a w E ok => ?_
              refine wpList_nil ?_
              refine t_norm ?_
              refine k_next (cl1 ⟨m23, _, le_m23, ok, ⟨memAt 3 rfl, memAt 4 rfl, memAt 5 rfl, memAt 6 rfl, memAt 7 rfl, trivial⟩⟩ ⟨m23, _, le_m23, ok, ⟨memAt 3 rfl, memAt 4 rfl, memAt 5 rfl, memAt 6 rfl, memAt 7 rfl, trivial⟩⟩) fun hT => ?_
              refine k_all [5] (by kernel_rfl) rfl (one_c ?_)
              · refine wpOp_of_list (o := _) rfl ?_
                refine l_app (R := pIns) E ok 2 mIns sl_29 Tryd.underlying29 rfl h84 (SrcOK.ofL h29 ok) e69 ⟨_, zero_41, rfl⟩ rfl rfl rfl rfl fun c121 M122 a w E ok h123 => ?_
                refine wpList_nil ?_
                refine t_norm ?_
                refine k_next (cl1 ⟨m23, _, le_m23, ok, ⟨memAt 3 rfl, memAt 4 rfl, memAt 5 rfl, memAt 6 rfl, memAt 7 rfl, trivial⟩⟩ ⟨m23, _, le_m23, ok, ⟨memAt 3 rfl, memAt 4 rfl, memAt 5 rfl, memAt 6 rfl, memAt 7 rfl, trivial⟩⟩) fun hT => ?_
                refine k_all [8] (by kernel_rfl) rfl (one_c ?_)
                · refine wpOp_of_list (o := _) rfl ?_
                  refine l_app (R := pIns) E ok 2 mIns sl_29 Tryd.underlying29 rfl h123 (SrcOK.ofRow h108 1 rfl ok) e77 ⟨_, zero_41, rfl⟩ rfl rfl rfl rfl fun c124 M125 a w E ok h126 => ?_
                  refine wpList_nil ?_
                  refine t_norm ?_
                  refine k_next (cl1 ⟨m23, _, le_m23, ok, ⟨memAt 3 rfl, memAt 4 rfl, memAt 5 rfl, memAt 6 rfl, memAt 7 rfl, trivial⟩⟩ ⟨m23, _, le_m23, ok, ⟨memAt 3 rfl, memAt 4 rfl, memAt 5 rfl, memAt 6 rfl, memAt 7 rfl, trivial⟩⟩) fun hT => ?_
                  refine k_take 9 E rfl (by kernel_rfl) nP hT (y_build (ps := [(0, .tmp 59), (1, .tmp 66)]) (qs := [(0, [c26]), (1, [c124])]) (cs := [c26, c124]) zero_31 places_31 rfl ⟨rfl, (pL_cells h27), rfl, ⟨rfl, (ORow.cells h126), rfl, trivial⟩⟩ rfl) rfl rfl fun a E => ?_
                  refine k_all [11] (by kernel_rfl) rfl (one_c ?_)
                  · refine wpOp_of_list (o := _) rfl ?_
                    refine l_storeB E ok 0 rfl rfl rfl inf_31 rfl rfl ⟨(pL_one h27), (ORow.one h126), trivial⟩ rfl rfl fun w ok => ?_
                    refine wpList_nil ?_
                    refine t_norm ?_
                    refine k_next (cl1 ⟨m23, _, le_m23, ok, ⟨memAt 3 rfl, memAt 4 rfl, memAt 5 rfl, memAt 6 rfl, memAt 7 rfl, trivial⟩⟩ ⟨m23, _, le_m23, ok, ⟨memAt 3 rfl, memAt 4 rfl, memAt 5 rfl, memAt 6 rfl, memAt 7 rfl, trivial⟩⟩) fun hT => ?_
                    refine k_done (by kernel_rfl) ?_
                    exact ⟨rfl, ⟨b120, c26, c124, M125, (ok.pk 8 [0, 2, 3, 4, 5, 6, 7] rfl (by decide)), E.keep [5, 7, 10, 11], h27, h126⟩⟩
            refine wpOp_of_list (o := _) rfl ?_
            refine l_app (R := pIns) E ok 1 mIns sl_29 Tryd.underlying29 rfl h84 (SrcOK.ofL h29 ok) e69 ⟨_, zero_41, rfl⟩ rfl rfl rfl rfl fun c109 M110 a w E ok h111 => ?_
            refine wpList_nil ?_
            refine t_norm ?_
            refine k_next (cl1 ⟨m23, _, le_m23, ok, ⟨memAt 2 rfl, memAt 3 rfl, memAt 4 rfl, memAt 5 rfl, memAt 6 rfl, trivial⟩⟩ ⟨m23, _, le_m23, ok, ⟨memAt 2 rfl, memAt 3 rfl, memAt 4 rfl, memAt 5 rfl, memAt 6 rfl, trivial⟩⟩) fun hT => ?_
            refine k_all [8, 10] (by kernel_rfl) rfl (all_c ?_ (all_c ?_ (all_n)))
            · refine wpOp_of_list (o := _) rfl ?_
              refine l_app (R := pIns) E ok 1 mIns sl_29 Tryd.underlying29 rfl h111 (SrcOK.ofRow h108 0 rfl ok) e77 ⟨_, zero_41, rfl⟩ rfl rfl rfl rfl fun c112 M113 a w E ok h114 => ?_
              refine wpList_nil ?_
              refine t_norm ?_
              refine k_next (cl1 ⟨m23, _, le_m23, ok, ⟨memAt 2 rfl, memAt 3 rfl, memAt 4 rfl, memAt 5 rfl, memAt 6 rfl, trivial⟩⟩ ⟨m23, _, le_m23, ok, ⟨memAt 2 rfl, memAt 3 rfl, memAt 4 rfl, memAt 5 rfl, memAt 6 rfl, trivial⟩⟩) fun hT => ?_
              refine k_take 9 E rfl (by kernel_rfl) nP hT (y_build (ps := [(0, .tmp 59), (1, .tmp 66)]) (qs := [(0, [c26]), (1, [c112])]) (cs := [c26, c112]) zero_31 places_31 rfl ⟨rfl, (pL_cells h27), rfl, ⟨rfl, (ORow.cells h114), rfl, trivial⟩⟩ rfl) rfl rfl fun a E => ?_
              refine k_all [10] (by kernel_rfl) rfl (one_c ?_)
              · refine wpOp_of_list (o := _) rfl ?_
                refine l_alloc E ok zero_31 rfl rfl fun b115 a w E ok => ?_
                refine wpList_nil ?_
                refine t_norm ?_
                refine k_next (cl1 ⟨m23, _, le_m23, ok, ⟨memAt 3 rfl, memAt 4 rfl, memAt 5 rfl, memAt 6 rfl, memAt 7 rfl, trivial⟩⟩ ⟨m23, _, le_m23, ok, ⟨memAt 3 rfl, memAt 4 rfl, memAt 5 rfl, memAt 6 rfl, memAt 7 rfl, trivial⟩⟩) fun hT => ?_
                refine k_all [11] (by kernel_rfl) rfl (one_c ?_)
                · refine wpOp_of_list (o := _) rfl ?_
                  refine l_storeB E ok 0 rfl rfl rfl inf_31 rfl rfl ⟨(pL_one h27), (ORow.one h114), trivial⟩ rfl rfl fun w ok => ?_
                  refine wpList_nil ?_
                  refine t_norm ?_
                  refine k_next (cl1 ⟨m23, _, le_m23, ok, ⟨memAt 3 rfl, memAt 4 rfl, memAt 5 rfl, memAt 6 rfl, memAt 7 rfl, trivial⟩⟩ ⟨m23, _, le_m23, ok, ⟨memAt 3 rfl, memAt 4 rfl, memAt 5 rfl, memAt 6 rfl, memAt 7 rfl, trivial⟩⟩) fun hT => ?_
                  refine k_done (by kernel_rfl) ?_
                  exact ⟨rfl, ⟨b115, c26, c112, M113, (ok.pk 8 [0, 2, 3, 4, 5, 6, 7] rfl (by decide)), E.keep [5, 7, 10, 11], h27, h114⟩⟩
            refine wpOp_of_list (o := _) rfl ?_
            refine l_alloc E ok zero_31 rfl rfl fun b116 a w E ok => ?_
            refine wpList_nil ?_
            refine t_norm ?_
            refine k_next (cl1 ⟨m23, _, le_m23, ok, ⟨memAt 3 rfl, memAt 4 rfl, memAt 5 rfl, memAt 6 rfl, memAt 7 rfl, trivial⟩⟩ ⟨m23, _, le_m23, ok, ⟨memAt 3 rfl, memAt 4 rfl, memAt 5 rfl, memAt 6 rfl, memAt 7 rfl, trivial⟩⟩) fun hT => ?_
            refine k_all [8] (by kernel_rfl) rfl (one_c ?_)
            · refine wpOp_of_list (o := _) rfl ?_
              refine l_app (R := pIns) E ok 2 mIns sl_29 Tryd.underlying29 rfl h111 (SrcOK.ofRow h108 1 rfl ok) e77 ⟨_, zero_41, rfl⟩ rfl rfl rfl rfl fun c117 M118 a w E ok h119 => ?_
              refine wpList_nil ?_
              refine t_norm ?_
              refine k_next (cl1 ⟨m23, _, le_m23, ok, ⟨memAt 3 rfl, memAt 4 rfl, memAt 5 rfl, memAt 6 rfl, memAt 7 rfl, trivial⟩⟩ ⟨m23, _, le_m23, ok, ⟨memAt 3 rfl, memAt 4 rfl, memAt 5 rfl, memAt 6 rfl, memAt 7 rfl, trivial⟩⟩) fun hT => ?_
              refine k_take 9 E rfl (by kernel_rfl) nP hT (y_build (ps := [(0, .tmp 59), (1, .tmp 66)]) (qs := [(0, [c26]), (1, [c117])]) (cs := [c26, c117]) zero_31 places_31 rfl ⟨rfl, (pL_cells h27), rfl, ⟨rfl, (ORow.cells h119), rfl, trivial⟩⟩ rfl) rfl rfl fun a E => ?_
              refine k_all [11] (by kernel_rfl) rfl (one_c ?_)
              · refine wpOp_of_list (o := _) rfl ?_
                refine l_storeB E ok 0 rfl rfl rfl inf_31 rfl rfl ⟨(pL_one h27), (ORow.one h119), trivial⟩ rfl rfl fun w ok => ?_
                refine wpList_nil ?_
                refine t_norm ?_
                refine k_next (cl1 ⟨m23, _, le_m23, ok, ⟨memAt 3 rfl, memAt 4 rfl, memAt 5 rfl, memAt 6 rfl, memAt 7 rfl, trivial⟩⟩ ⟨m23, _, le_m23, ok, ⟨memAt 3 rfl, memAt 4 rfl, memAt 5 rfl, memAt 6 rfl, memAt 7 rfl, trivial⟩⟩) fun hT => ?_
                refine k_done (by kernel_rfl) ?_
                exact ⟨rfl, ⟨b116, c26, c117, M118, (ok.pk 8 [0, 2, 3, 4, 5, 6, 7] rfl (by decide)), E.keep [5, 7, 10, 11], h27, h119⟩⟩
          refine wpOp_of_list (o := _) rfl ?_
          refine l_alloc E ok zero_31 rfl rfl fun b127 a w E ok => ?_
          refine wpList_nil ?_
          refine t_norm ?_
          refine k_next (cl1 ⟨m23, _, le_m23, ok, ⟨memAt 2 rfl, memAt 3 rfl, memAt 4 rfl, memAt 5 rfl, memAt 6 rfl, trivial⟩⟩ ⟨m23, _, le_m23, ok, ⟨memAt 2 rfl, memAt 3 rfl, memAt 4 rfl, memAt 5 rfl, memAt 6 rfl, trivial⟩⟩) fun hT => ?_
          refine k_all [5, 7] (by kernel_rfl) rfl (all_c ?_ (all_c ?_ (all_n)))
          · refine wpOp_of_list (o := _) rfl ?_
            refine l_app (R := pIns) E ok 1 mIns sl_29 Tryd.underlying29 rfl h84 (SrcOK.ofL h29 ok) e69 ⟨_, zero_41, rfl⟩ rfl rfl rfl rfl fun c128 M129 a w E ok h130 => ?_
            refine wpList_nil ?_
            refine t_norm ?_
            refine k_next (cl1 ⟨m23, _, le_m23, ok, ⟨memAt 2 rfl, memAt 3 rfl, memAt 4 rfl, memAt 5 rfl, memAt 6 rfl, trivial⟩⟩ ⟨m23, _, le_m23, ok, ⟨memAt 2 rfl, memAt 3 rfl, memAt 4 rfl, memAt 5 rfl, memAt 6 rfl, trivial⟩⟩) fun hT => ?_
            refine k_all [7] (by kernel_rfl) rfl (one_c ?_)
            · refine wpOp_of_list (o := _) rfl ?_
              refine l_slit (R := pIns) (xo := [.tmp 64]) (xs := ([more_1] : List (Ins))) E ok sl_29 zero_41 rfl ⟨⟨_, rfl, rfl, ⟨rfl, r5, r6, r7, l8⟩⟩, trivial⟩ rfl rfl rfl rfl fun c131 M132 a w E ok h133 => ?_
              refine wpList_nil ?_
              refine t_norm ?_
              refine k_next (cl1 ⟨m23, _, le_m23, ok, ⟨memAt 3 rfl, memAt 4 rfl, memAt 5 rfl, memAt 6 rfl, memAt 7 rfl, trivial⟩⟩ ⟨m23, _, le_m23, ok, ⟨memAt 3 rfl, memAt 4 rfl, memAt 5 rfl, memAt 6 rfl, memAt 7 rfl, trivial⟩⟩) fun hT => ?_
              refine k_all [8] (by kernel_rfl) rfl (one_c ?_)
              · refine wpOp_of_list (o := _) rfl ?_
                refine l_app (R := pIns) E ok 2 mIns sl_29 Tryd.underlying29 rfl h130 (SrcOK.ofRow h133 0 rfl ok) e77 ⟨_, zero_41, rfl⟩ rfl rfl rfl rfl fun c134 M135 a w E ok h136 => ?_
                refine wpList_nil ?_
                refine t_norm ?_
                refine k_next (cl1 ⟨m23, _, le_m23, ok, ⟨memAt 3 rfl, memAt 4 rfl, memAt 5 rfl, memAt 6 rfl, memAt 7 rfl, trivial⟩⟩ ⟨m23, _, le_m23, ok, ⟨memAt 3 rfl, memAt 4 rfl, memAt 5 rfl, memAt 6 rfl, memAt 7 rfl, trivial⟩⟩) fun hT => ?_
                refine k_take 9 E rfl (by kernel_rfl) nP hT (y_build (ps := [(0, .tmp 59), (1, .tmp 66)]) (qs := [(0, [c26]), (1, [c134])]) (cs := [c26, c134]) zero_31 places_31 rfl ⟨rfl, (pL_cells h27), rfl, ⟨rfl, (ORow.cells h136), rfl, trivial⟩⟩ rfl) rfl rfl fun a E => ?_
                refine k_all [11] (by kernel_rfl) rfl (one_c ?_)
                · refine wpOp_of_list (o := _) rfl ?_
                  refine l_storeB E ok 1 rfl rfl rfl inf_31 rfl rfl ⟨(pL_one h27), (ORow.one h136), trivial⟩ rfl rfl fun w ok => ?_
                  refine wpList_nil ?_
                  refine t_norm ?_
                  refine k_next (cl1 ⟨m23, _, le_m23, ok, ⟨memAt 3 rfl, memAt 4 rfl, memAt 5 rfl, memAt 6 rfl, memAt 7 rfl, trivial⟩⟩ ⟨m23, _, le_m23, ok, ⟨memAt 3 rfl, memAt 4 rfl, memAt 5 rfl, memAt 6 rfl, memAt 7 rfl, trivial⟩⟩) fun hT => ?_
                  refine k_done (by kernel_rfl) ?_
                  exact ⟨rfl, ⟨b127, c26, c134, M135, (ok.pk 8 [1, 2, 3, 4, 5, 6, 7] rfl (by decide)), E.keep [5, 7, 10, 11], h27, h136⟩⟩
          refine wpOp_of_list (o := _) rfl ?_
          refine l_slit (R := pIns) (xo := [.tmp 64]) (xs := ([more_1] : List (Ins))) E ok sl_29 zero_41 rfl ⟨⟨_, rfl, rfl, ⟨rfl, r5, r6, r7, l8⟩⟩, trivial⟩ rfl rfl rfl rfl fun c137 M138 a w E ok h139 => ?_
          refine wpList_nil ?_
          refine t_norm ?_
          refine k_next (cl1 ⟨m23, _, le_m23, ok, ⟨memAt 3 rfl, memAt 4 rfl, memAt 5 rfl, memAt 6 rfl, memAt 7 rfl, trivial⟩⟩ ⟨m23, _, le_m23, ok, ⟨memAt 3 rfl, memAt 4 rfl, memAt 5 rfl, memAt 6 rfl, memAt 7 rfl, trivial⟩⟩) fun hT => ?_
          refine k_all [5] (by kernel_rfl) rfl (one_c ?_)
          · refine wpOp_of_list (o := _) rfl ?_
            refine l_app (R := pIns) E ok 2 mIns sl_29 Tryd.underlying29 rfl h84 (SrcOK.ofL h29 ok) e69 ⟨_, zero_41, rfl⟩ rfl rfl rfl rfl fun c140 M141 a w E ok h142 => ?_
            refine wpList_nil ?_
            refine t_norm ?_
            refine k_next (cl1 ⟨m23, _, le_m23, ok, ⟨memAt 3 rfl, memAt 4 rfl, memAt 5 rfl, memAt 6 rfl, memAt 7 rfl, trivial⟩⟩ ⟨m23, _, le_m23, ok, ⟨memAt 3 rfl, memAt 4 rfl, memAt 5 rfl, memAt 6 rfl, memAt 7 rfl, trivial⟩⟩) fun hT => ?_
            refine k_all [8] (by kernel_rfl) rfl (one_c ?_)
            · refine wpOp_of_list (o := _) rfl ?_
              refine l_app (R := pIns) E ok 2 mIns sl_29 Tryd.underlying29 rfl h142 (SrcOK.ofRow h139 0 rfl ok) e77 ⟨_, zero_41, rfl⟩ rfl rfl rfl rfl fun c143 M144 a w E ok h145 => ?_
              refine wpList_nil ?_
              refine t_norm ?_
              refine k_next (cl1 ⟨m23, _, le_m23, ok, ⟨memAt 3 rfl, memAt 4 rfl, memAt 5 rfl, memAt 6 rfl, memAt 7 rfl, trivial⟩⟩ ⟨m23, _, le_m23, ok, ⟨memAt 3 rfl, memAt 4 rfl, memAt 5 rfl, memAt 6 rfl, memAt 7 rfl, trivial⟩⟩) fun hT => ?_
              refine k_take 9 E rfl (by kernel_rfl) nP hT (y_build (ps := [(0, .tmp 59), (1, .tmp 66)]) (qs := [(0, [c26]), (1, [c143])]) (cs := [c26, c143]) zero_31 places_31 rfl ⟨rfl, (pL_cells h27), rfl, ⟨rfl, (ORow.cells h145), rfl, trivial⟩⟩ rfl) rfl rfl fun a E => ?_
              refine k_all [11] (by kernel_rfl) rfl (one_c ?_)
              · refine wpOp_of_list (o := _) rfl ?_
                refine l_storeB E ok 1 rfl rfl rfl inf_31 rfl rfl ⟨(pL_one h27), (ORow.one h145), trivial⟩ rfl rfl fun w ok => ?_
                refine wpList_nil ?_
                refine t_norm ?_
                refine k_next (cl1 ⟨m23, _, le_m23, ok, ⟨memAt 3 rfl, memAt 4 rfl, memAt 5 rfl, memAt 6 rfl, memAt 7 rfl, trivial⟩⟩ ⟨m23, _, le_m23, ok, ⟨memAt 3 rfl, memAt 4 rfl, memAt 5 rfl, memAt 6 rfl, memAt 7 rfl, trivial⟩⟩) fun hT => ?_
                refine k_done (by kernel_rfl) ?_
                exact ⟨rfl, ⟨b127, c26, c143, M144, (ok.pk 8 [1, 2, 3, 4, 5, 6, 7] rfl (by decide)), E.keep [5, 7, 10, 11], h27, h145⟩⟩
      · as_aux_lemma =>
          refine wpOp_of_list (o := _) rfl ?_
          refine l_slit (R := pIns) (xo := [.tmp 64]) (xs := ([more_1] : List (Ins))) E ok sl_29 zero_41 rfl ⟨⟨_, rfl, rfl, ⟨rfl, r5, r6, r7, l8⟩⟩, trivial⟩ rfl rfl rfl rfl fun c146 M147 a w E ok h148 => ?_
          refine wpList_nil ?_
          refine t_norm ?_
          refine k_next (cl1 ⟨m23, _, le_m23, ok, ⟨memAt 1 rfl, memAt 2 rfl, memAt 3 rfl, memAt 4 rfl, memAt 5 rfl, trivial⟩⟩ ⟨m23, _, le_m23, ok, ⟨memAt 1 rfl, memAt 2 rfl, memAt 3 rfl, memAt 4 rfl, memAt 5 rfl, trivial⟩⟩) fun hT => ?_
          refine k_all [2, 10] (by kernel_rfl) rfl (all_c ?_ (all_c ?_ (all_n)))
          rotate_left
          · refine wpOp_of_list (o := _) rfl ?_
            refine l_alloc E ok zero_31 rfl rfl fun b170 a w E ok => ?_
            refine wpList_nil ?_
            refine t_norm ?_
            refine k_next (cl1 ⟨m23, _, le_m23, ok, ⟨memAt 2 rfl, memAt 3 rfl, memAt 4 rfl, memAt 5 rfl, memAt 6 rfl, trivial⟩⟩ ⟨m23, _, le_m23, ok, ⟨memAt 2 rfl, memAt 3 rfl, memAt 4 rfl, memAt 5 rfl, memAt 6 rfl, trivial⟩⟩) fun hT => ?_
            refine k_all [2] (by kernel_rfl) rfl (one_c ?_)
            · refine wpOp_of_list (o := _) rfl ?_
              refine l_slit (R := pIns) (xo := []) (xs := ([] : List (Ins))) E ok sl_29 zero_41 rfl trivial rfl rfl rfl rfl fun c171 M172 a w E ok h173 => ?_
              refine wpList_nil ?_
              refine t_norm ?_
              refine k_next (cl1 ⟨m23, _, le_m23, ok, ⟨memAt 3 rfl, memAt 4 rfl, memAt 5 rfl, memAt 6 rfl, memAt 7 rfl, trivial⟩⟩ ⟨m23, _, le_m23, ok, ⟨memAt 3 rfl, memAt 4 rfl, memAt 5 rfl, memAt 6 rfl, memAt 7 rfl, trivial⟩⟩) fun hT => ?_
              refine k_all [5] (by kernel_rfl) rfl (one_c ?_)
              · refine wpOp_of_list (o := _) rfl ?_
                refine l_app (R := pIns) E ok 0 mIns sl_29 Tryd.underlying29 rfl h173 (SrcOK.ofL h29 ok) e69 ⟨_, zero_41, rfl⟩ rfl rfl rfl rfl fun c174 M175 a w E ok h176 => ?_
                refine wpList_nil ?_
                refine t_norm ?_
                refine k_next (cl1 ⟨m23, _, le_m23, ok, ⟨memAt 3 rfl, memAt 4 rfl, memAt 5 rfl, memAt 6 rfl, memAt 7 rfl, trivial⟩⟩ ⟨m23, _, le_m23, ok, ⟨memAt 3 rfl, memAt 4 rfl, memAt 5 rfl, memAt 6 rfl, memAt 7 rfl, trivial⟩⟩) fun hT => ?_
                refine k_all [8] (by kernel_rfl) rfl (one_c ?_)
                · refine wpOp_of_list (o := _) rfl ?_
                  refine l_app (R := pIns) E ok 0 mIns sl_29 Tryd.underlying29 rfl h176 (SrcOK.ofRow h148 2 rfl ok) e77 ⟨_, zero_41, rfl⟩ rfl rfl rfl rfl fun c177 M178 a w E ok h179 => ?_
                  refine wpList_nil ?_
                  refine t_norm ?_
                  refine k_next (cl1 ⟨m23, _, le_m23, ok, ⟨memAt 3 rfl, memAt 4 rfl, memAt 5 rfl, memAt 6 rfl, memAt 7 rfl, trivial⟩⟩ ⟨m23, _, le_m23, ok, ⟨memAt 3 rfl, memAt 4 rfl, memAt 5 rfl, memAt 6 rfl, memAt 7 rfl, trivial⟩⟩) fun hT => ?_
                  refine k_take 9 E rfl (by kernel_rfl) nP hT (y_build (ps := [(0, .tmp 59), (1, .tmp 66)]) (qs := [(0, [c26]), (1, [c177])]) (cs := [c26, c177]) zero_31 places_31 rfl ⟨rfl, (pL_cells h27), rfl, ⟨rfl, (ORow.cells h179), rfl, trivial⟩⟩ rfl) rfl rfl fun a E => ?_
                  refine k_all [11] (by kernel_rfl) rfl (one_c ?_)
                  · refine wpOp_of_list (o := _) rfl ?_
                    refine l_storeB E ok 1 rfl rfl rfl inf_31 rfl rfl ⟨(pL_one h27), (ORow.one h179), trivial⟩ rfl rfl fun w ok => ?_
                    refine wpList_nil ?_
                    refine t_norm ?_
                    refine k_next (cl1 ⟨m23, _, le_m23, ok, ⟨memAt 3 rfl, memAt 4 rfl, memAt 5 rfl, memAt 6 rfl, memAt 7 rfl, trivial⟩⟩ ⟨m23, _, le_m23, ok, ⟨memAt 3 rfl, memAt 4 rfl, memAt 5 rfl, memAt 6 rfl, memAt 7 rfl, trivial⟩⟩) fun hT => ?_
                    refine k_done (by kernel_rfl) ?_
                    exact ⟨rfl, ⟨b170, c26, c177, M178, (ok.pk 8 [1, 0, 3, 4, 5, 6, 7] rfl (by decide)), E.keep [5, 7, 10, 11], h27, h179⟩⟩
          refine wpOp_of_list (o := _) rfl ?_
          refine l_slit (R := pIns) (xo := []) (xs := ([] : List (Ins))) E ok sl_29 zero_41 rfl trivial rfl rfl rfl rfl fun c149 M150 a w E ok h151 => ?_
          refine wpList_nil ?_
          refine t_norm ?_
          refine k_next (cl1 ⟨m23, _, le_m23, ok, ⟨memAt 2 rfl, memAt 3 rfl, memAt 4 rfl, memAt 5 rfl, memAt 6 rfl, trivial⟩⟩ ⟨m23, _, le_m23, ok, ⟨memAt 2 rfl, memAt 3 rfl, memAt 4 rfl, memAt 5 rfl, memAt 6 rfl, trivial⟩⟩) fun hT => ?_
          refine k_all [5, 10] (by kernel_rfl) rfl (all_c ?_ (all_c ?_ (all_n)))
          rotate_left
          · refine wpOp_of_list (o := _) rfl ?_
            refine l_alloc E ok zero_31 rfl rfl fun b163 a w E ok => ?_
            refine wpList_nil ?_
            refine t_norm ?_
            refine k_next (cl1 ⟨m23, _, le_m23, ok, ⟨memAt 3 rfl, memAt 4 rfl, memAt 5 rfl, memAt 6 rfl, memAt 7 rfl, trivial⟩⟩ ⟨m23, _, le_m23, ok, ⟨memAt 3 rfl, memAt 4 rfl, memAt 5 rfl, memAt 6 rfl, memAt 7 rfl, trivial⟩⟩) fun hT => ?_
            refine k_all [5] (by kernel_rfl) rfl (one_c ?_)
            · refine wpOp_of_list (o := _) rfl ?_
              refine l_app (R := pIns) E ok 1 mIns sl_29 Tryd.underlying29 rfl h151 (SrcOK.ofL h29 ok) e69 ⟨_, zero_41, rfl⟩ rfl rfl rfl rfl fun c164 M165 a w E ok h166 => ?_
              refine wpList_nil ?_
              refine t_norm ?_
              refine k_next (cl1 ⟨m23, _, le_m23, ok, ⟨memAt 3 rfl, memAt 4 rfl, memAt 5 rfl, memAt 6 rfl, memAt 7 rfl, trivial⟩⟩ ⟨m23, _, le_m23, ok, ⟨memAt 3 rfl, memAt 4 rfl, memAt 5 rfl, memAt 6 rfl, memAt 7 rfl, trivial⟩⟩) fun hT => ?_
              refine k_all [8] (by kernel_rfl) rfl (one_c ?_)
              · refine wpOp_of_list (o := _) rfl ?_
                refine l_app (R := pIns) E ok 1 mIns sl_29 Tryd.underlying29 rfl h166 (SrcOK.ofRow h148 2 rfl ok) e77 ⟨_, zero_41, rfl⟩ rfl rfl rfl rfl fun c167 M168 a w E ok h169 => ?_
                refine wpList_nil ?_
                refine t_norm ?_
                refine k_next (cl1 ⟨m23, _, le_m23, ok, ⟨memAt 3 rfl, memAt 4 rfl, memAt 5 rfl, memAt 6 rfl, memAt 7 rfl, trivial⟩⟩ ⟨m23, _, le_m23, ok, ⟨memAt 3 rfl, memAt 4 rfl, memAt 5 rfl, memAt 6 rfl, memAt 7 rfl, trivial⟩⟩) fun hT => ?_
                refine k_take 9 E rfl (by kernel_rfl) nP hT (y_build (ps := [(0, .tmp 59), (1, .tmp 66)]) (qs := [(0, [c26]), (1, [c167])]) (cs := [c26, c167]) zero_31 places_31 rfl ⟨rfl, (pL_cells h27), rfl, ⟨rfl, (ORow.cells h169), rfl, trivial⟩⟩ rfl) rfl rfl fun a E => ?_
                refine k_all [11] (by kernel_rfl) rfl (one_c ?_)
                · refine wpOp_of_list (o := _) rfl ?_
                  refine l_storeB E ok 0 rfl rfl rfl inf_31 rfl rfl ⟨(pL_one h27), (ORow.one h169), trivial⟩ rfl rfl fun w ok => ?_
                  refine wpList_nil ?_
                  refine t_norm ?_
                  refine k_next (cl1 ⟨m23, _, le_m23, ok, ⟨memAt 3 rfl, memAt 4 rfl, memAt 5 rfl, memAt 6 rfl, memAt 7 rfl, trivial⟩⟩ ⟨m23, _, le_m23, ok, ⟨memAt 3 rfl, memAt 4 rfl, memAt 5 rfl, memAt 6 rfl, memAt 7 rfl, trivial⟩⟩) fun hT => ?_
                  refine k_done (by kernel_rfl) ?_
                  exact ⟨rfl, ⟨b163, c26, c167, M168, (ok.pk 8 [0, 1, 3, 4, 5, 6, 7] rfl (by decide)), E.keep [5, 7, 10, 11], h27, h169⟩⟩
          refine wpOp_of_list (o := _) rfl ?_
          refine l_app (R := pIns) E ok 0 mIns sl_29 Tryd.underlying29 rfl h151 (SrcOK.ofL h29 ok) e69 ⟨_, zero_41, rfl⟩ rfl rfl rfl rfl fun c152 M153 a w E ok h154 => ?_
          refine wpList_nil ?_
          refine t_norm ?_
          refine k_next (cl1 ⟨m23, _, le_m23, ok, ⟨memAt 2 rfl, memAt 3 rfl, memAt 4 rfl, memAt 5 rfl, memAt 6 rfl, trivial⟩⟩ ⟨m23, _, le_m23, ok, ⟨memAt 2 rfl, memAt 3 rfl, memAt 4 rfl, memAt 5 rfl, memAt 6 rfl, trivial⟩⟩) fun hT => ?_
          refine k_all [8, 10] (by kernel_rfl) rfl (all_c ?_ (all_c ?_ (all_n)))
          · refine wpOp_of_list (o := _) rfl ?_
            refine l_app (R := pIns) E ok 0 mIns sl_29 Tryd.underlying29 rfl h154 (SrcOK.ofRow h148 1 rfl ok) e77 ⟨_, zero_41, rfl⟩ rfl rfl rfl rfl fun c155 M156 a w E ok h157 => ?_
            refine wpList_nil ?_
            refine t_norm ?_
            refine k_next (cl1 ⟨m23, _, le_m23, ok, ⟨memAt 2 rfl, memAt 3 rfl, memAt 4 rfl, memAt 5 rfl, memAt 6 rfl, trivial⟩⟩ ⟨m23, _, le_m23, ok, ⟨memAt 2 rfl, memAt 3 rfl, memAt 4 rfl, memAt 5 rfl, memAt 6 rfl, trivial⟩⟩) fun hT => ?_
            refine k_take 9 E rfl (by kernel_rfl) nP hT (y_build (ps := [(0, .tmp 59), (1, .tmp 66)]) (qs := [(0, [c26]), (1, [c155])]) (cs := [c26, c155]) zero_31 places_31 rfl ⟨rfl, (pL_cells h27), rfl, ⟨rfl, (ORow.cells h157), rfl, trivial⟩⟩ rfl) rfl rfl fun a E => ?_
            refine k_all [10] (by kernel_rfl) rfl (one_c ?_)
            · refine wpOp_of_list (o := _) rfl ?_
              refine l_alloc E ok zero_31 rfl rfl fun b158 a w E ok => ?_
              refine wpList_nil ?_
              refine t_norm ?_
              refine k_next (cl1 ⟨m23, _, le_m23, ok, ⟨memAt 3 rfl, memAt 4 rfl, memAt 5 rfl, memAt 6 rfl, memAt 7 rfl, trivial⟩⟩ ⟨m23, _, le_m23, ok, ⟨memAt 3 rfl, memAt 4 rfl, memAt 5 rfl, memAt 6 rfl, memAt 7 rfl, trivial⟩⟩) fun hT => ?_
              refine k_all [11] (by kernel_rfl) rfl (one_c ?_)
              · refine wpOp_of_list (o := _) rfl ?_
                refine l_storeB E ok 0 rfl rfl rfl inf_31 rfl rfl ⟨(pL_one h27), (ORow.one h157), trivial⟩ rfl rfl fun w ok => ?_
                refine wpList_nil ?_
                refine t_norm ?_
                refine k_next (cl1 ⟨m23, _, le_m23, ok, ⟨memAt 3 rfl, memAt 4 rfl, memAt 5 rfl, memAt 6 rfl, memAt 7 rfl, trivial⟩⟩ ⟨m23, _, le_m23, ok, ⟨memAt 3 rfl, memAt 4 rfl, memAt 5 rfl, memAt 6 rfl, memAt 7 rfl, trivial⟩⟩) fun hT => ?_
                refine k_done (by kernel_rfl) ?_
                exact ⟨rfl, ⟨b158, c26, c155, M156, (ok.pk 8 [0, 1, 3, 4, 5, 6, 7] rfl (by decide)), E.keep [5, 7, 10, 11], h27, h157⟩⟩
          refine wpOp_of_list (o := _) rfl ?_
          refine l_alloc E ok zero_31 rfl rfl fun b159 a w E ok => ?_
          refine wpList_nil ?_
          refine t_norm ?_
          refine k_next (cl1 ⟨m23, _, le_m23, ok, ⟨memAt 3 rfl, memAt 4 rfl, memAt 5 rfl, memAt 6 rfl, memAt 7 rfl, trivial⟩⟩ ⟨m23, _, le_m23, ok, ⟨memAt 3 rfl, memAt 4 rfl, memAt 5 rfl, memAt 6 rfl, memAt 7 rfl, trivial⟩⟩) fun hT => ?_
          refine k_all [8] (by kernel_rfl) rfl (one_c ?_)
          · refine wpOp_of_list (o := _) rfl ?_
            refine l_app (R := pIns) E ok 1 mIns sl_29 Tryd.underlying29 rfl h154 (SrcOK.ofRow h148 2 rfl ok) e77 ⟨_, zero_41, rfl⟩ rfl rfl rfl rfl fun c160 M161 a w E ok h162 => ?_
            refine wpList_nil ?_
            refine t_norm ?_
            refine k_next (cl1 ⟨m23, _, le_m23, ok, ⟨memAt 3 rfl, memAt 4 rfl, memAt 5 rfl, memAt 6 rfl, memAt 7 rfl, trivial⟩⟩ ⟨m23, _, le_m23, ok, ⟨memAt 3 rfl, memAt 4 rfl, memAt 5 rfl, memAt 6 rfl, memAt 7 rfl, trivial⟩⟩) fun hT => ?_
            refine k_take 9 E rfl (by kernel_rfl) nP hT (y_build (ps := [(0, .tmp 59), (1, .tmp 66)]) (qs := [(0, [c26]), (1, [c160])]) (cs := [c26, c160]) zero_31 places_31 rfl ⟨rfl, (pL_cells h27), rfl, ⟨rfl, (ORow.cells h162), rfl, trivial⟩⟩ rfl) rfl rfl fun a E => ?_
            refine k_all [11] (by kernel_rfl) rfl (one_c ?_)
            · refine wpOp_of_list (o := _) rfl ?_
              refine l_storeB E ok 0 rfl rfl rfl inf_31 rfl rfl ⟨(pL_one h27), (ORow.one h162), trivial⟩ rfl rfl fun w ok => ?_
              refine wpList_nil ?_
              refine t_norm ?_
              refine k_next (cl1 ⟨m23, _, le_m23, ok, ⟨memAt 3 rfl, memAt 4 rfl, memAt 5 rfl, memAt 6 rfl, memAt 7 rfl, trivial⟩⟩ ⟨m23, _, le_m23, ok, ⟨memAt 3 rfl, memAt 4 rfl, memAt 5 rfl, memAt 6 rfl, memAt 7 rfl, trivial⟩⟩) fun hT => ?_
              refine k_done (by kernel_rfl) ?_
              exact ⟨rfl, ⟨b159, c26, c160, M161, (ok.pk 8 [0, 1, 3, 4, 5, 6, 7] rfl (by decide)), E.keep [5, 7, 10, 11], h27, h162⟩⟩
      refine wpOp_of_list (o := _) rfl ?_
      refine l_alloc E ok zero_31 rfl rfl fun b180 a w E ok => ?_
      refine wpList_nil ?_
      refine t_norm ?_
      refine k_next (cl1 ⟨m23, _, le_m23, ok, ⟨memAt 1 rfl, memAt 2 rfl, memAt 3 rfl, memAt 4 rfl, memAt 5 rfl, trivial⟩⟩ ⟨m23, _, le_m23, ok, ⟨memAt 1 rfl, memAt 2 rfl, memAt 3 rfl, memAt 4 rfl, memAt 5 rfl, trivial⟩⟩) fun hT => ?_
      refine k_all [2, 7] (by kernel_rfl) rfl (all_c ?_ (all_c ?_ (all_n)))
      rotate_left
      · refine wpOp_of_list (o := _) rfl ?_
        refine l_slit (R := pIns) (xo := [.tmp 64]) (xs := ([more_1] : List (Ins))) E ok sl_29 zero_41 rfl ⟨⟨_, rfl, rfl, ⟨rfl, r5, r6, r7, l8⟩⟩, trivial⟩ rfl rfl rfl rfl fun c202 M203 a w E ok h204 => ?_
        refine wpList_nil ?_
        refine t_norm ?_
        refine k_next (cl1 ⟨m23, _, le_m23, ok, ⟨memAt 2 rfl, memAt 3 rfl, memAt 4 rfl, memAt 5 rfl, memAt 6 rfl, trivial⟩⟩ ⟨m23, _, le_m23, ok, ⟨memAt 2 rfl, memAt 3 rfl, memAt 4 rfl, memAt 5 rfl, memAt 6 rfl, trivial⟩⟩) fun hT => ?_
        refine k_all [2] (by kernel_rfl) rfl (one_c ?_)
        · refine wpOp_of_list (o := _) rfl ?_
          refine l_slit (R := pIns) (xo := []) (xs := ([] : List (Ins))) E ok sl_29 zero_41 rfl trivial rfl rfl rfl rfl fun c205 M206 a w E ok h207 => ?_
          refine wpList_nil ?_
          refine t_norm ?_
          refine k_next (cl1 ⟨m23, _, le_m23, ok, ⟨memAt 3 rfl, memAt 4 rfl, memAt 5 rfl, memAt 6 rfl, memAt 7 rfl, trivial⟩⟩ ⟨m23, _, le_m23, ok, ⟨memAt 3 rfl, memAt 4 rfl, memAt 5 rfl, memAt 6 rfl, memAt 7 rfl, trivial⟩⟩) fun hT => ?_
          refine k_all [5] (by kernel_rfl) rfl (one_c ?_)
          · refine wpOp_of_list (o := _) rfl ?_
            refine l_app (R := pIns) E ok 0 mIns sl_29 Tryd.underlying29 rfl h207 (SrcOK.ofL h29 ok) e69 ⟨_, zero_41, rfl⟩ rfl rfl rfl rfl fun c208 M209 a w E ok h210 => ?_
            refine wpList_nil ?_
            refine t_norm ?_
            refine k_next (cl1 ⟨m23, _, le_m23, ok, ⟨memAt 3 rfl, memAt 4 rfl, memAt 5 rfl, memAt 6 rfl, memAt 7 rfl, trivial⟩⟩ ⟨m23, _, le_m23, ok, ⟨memAt 3 rfl, memAt 4 rfl, memAt 5 rfl, memAt 6 rfl, memAt 7 rfl, trivial⟩⟩) fun hT => ?_
            refine k_all [8] (by kernel_rfl) rfl (one_c ?_)
            · refine wpOp_of_list (o := _) rfl ?_
              refine l_app (R := pIns) E ok 0 mIns sl_29 Tryd.underlying29 rfl h210 (SrcOK.ofRow h204 1 rfl ok) e77 ⟨_, zero_41, rfl⟩ rfl rfl rfl rfl fun c211 M212 a w E ok h213 => ?_
              refine wpList_nil ?_
              refine t_norm ?_
              refine k_next (cl1 ⟨m23, _, le_m23, ok, ⟨memAt 3 rfl, memAt 4 rfl, memAt 5 rfl, memAt 6 rfl, memAt 7 rfl, trivial⟩⟩ ⟨m23, _, le_m23, ok, ⟨memAt 3 rfl, memAt 4 rfl, memAt 5 rfl, memAt 6 rfl, memAt 7 rfl, trivial⟩⟩) fun hT => ?_
              refine k_take 9 E rfl (by kernel_rfl) nP hT (y_build (ps := [(0, .tmp 59), (1, .tmp 66)]) (qs := [(0, [c26]), (1, [c211])]) (cs := [c26, c211]) zero_31 places_31 rfl ⟨rfl, (pL_cells h27), rfl, ⟨rfl, (ORow.cells h213), rfl, trivial⟩⟩ rfl) rfl rfl fun a E => ?_
              refine k_all [11] (by kernel_rfl) rfl (one_c ?_)
              · refine wpOp_of_list (o := _) rfl ?_
                refine l_storeB E ok 2 rfl rfl rfl inf_31 rfl rfl ⟨(pL_one h27), (ORow.one h213), trivial⟩ rfl rfl fun w ok => ?_
                refine wpList_nil ?_
                refine t_norm ?_
                refine k_next (cl1 ⟨m23, _, le_m23, ok, ⟨memAt 3 rfl, memAt 4 rfl, memAt 5 rfl, memAt 6 rfl, memAt 7 rfl, trivial⟩⟩ ⟨m23, _, le_m23, ok, ⟨memAt 3 rfl, memAt 4 rfl, memAt 5 rfl, memAt 6 rfl, memAt 7 rfl, trivial⟩⟩) fun hT => ?_
                refine k_done (by kernel_rfl) ?_
                exact ⟨rfl, ⟨b180, c26, c211, M212, (ok.pk 8 [2, 0, 3, 4, 5, 6, 7] rfl (by decide)), E.keep [5, 7, 10, 11], h27, h213⟩⟩
      refine wpOp_of_list (o := _) rfl ?_
      refine l_slit (R := pIns) (xo := []) (xs := ([] : List (Ins))) E ok sl_29 zero_41 rfl trivial rfl rfl rfl rfl fun c181 M182 a w E ok h183 => ?_
      refine wpList_nil ?_
      refine t_norm ?_
      refine k_next (cl1 ⟨m23, _, le_m23, ok, ⟨memAt 2 rfl, memAt 3 rfl, memAt 4 rfl, memAt 5 rfl, memAt 6 rfl, trivial⟩⟩ ⟨m23, _, le_m23, ok, ⟨memAt 2 rfl, memAt 3 rfl, memAt 4 rfl, memAt 5 rfl, memAt 6 rfl, trivial⟩⟩) fun hT => ?_
      refine k_all [5, 7] (by kernel_rfl) rfl (all_c ?_ (all_c ?_ (all_n)))
      · refine wpOp_of_list (o := _) rfl ?_
        refine l_app (R := pIns) E ok 0 mIns sl_29 Tryd.underlying29 rfl h183 (SrcOK.ofL h29 ok) e69 ⟨_, zero_41, rfl⟩ rfl rfl rfl rfl fun c184 M185 a w E ok h186 => ?_
        refine wpList_nil ?_
        refine t_norm ?_
        refine k_next (cl1 ⟨m23, _, le_m23, ok, ⟨memAt 2 rfl, memAt 3 rfl, memAt 4 rfl, memAt 5 rfl, memAt 6 rfl, trivial⟩⟩ ⟨m23, _, le_m23, ok, ⟨memAt 2 rfl, memAt 3 rfl, memAt 4 rfl, memAt 5 rfl, memAt 6 rfl, trivial⟩⟩) fun hT => ?_
        refine k_all [7] (by kernel_rfl) rfl (one_c ?_)
        · refine wpOp_of_list (o := _) rfl ?_
          refine l_slit (R := pIns) (xo := [.tmp 64]) (xs := ([more_1] : List (Ins))) E ok sl_29 zero_41 rfl ⟨⟨_, rfl, rfl, ⟨rfl, r5, r6, r7, l8⟩⟩, trivial⟩ rfl rfl rfl rfl fun c187 M188 a w E ok h189 => ?_
          refine wpList_nil ?_
          refine t_norm ?_
          refine k_next (cl1 ⟨m23, _, le_m23, ok, ⟨memAt 3 rfl, memAt 4 rfl, memAt 5 rfl, memAt 6 rfl, memAt 7 rfl, trivial⟩⟩ ⟨m23, _, le_m23, ok, ⟨memAt 3 rfl, memAt 4 rfl, memAt 5 rfl, memAt 6 rfl, memAt 7 rfl, trivial⟩⟩) fun hT => ?_
          refine k_all [8] (by kernel_rfl) rfl (one_c ?_)
          · refine wpOp_of_list (o := _) rfl ?_
            refine l_app (R := pIns) E ok 1 mIns sl_29 Tryd.underlying29 rfl h186 (SrcOK.ofRow h189 0 rfl ok) e77 ⟨_, zero_41, rfl⟩ rfl rfl rfl rfl fun c190 M191 a w E ok h192 => ?_
            refine wpList_nil ?_
            refine t_norm ?_
            refine k_next (cl1 ⟨m23, _, le_m23, ok, ⟨memAt 3 rfl, memAt 4 rfl, memAt 5 rfl, memAt 6 rfl, memAt 7 rfl, trivial⟩⟩ ⟨m23, _, le_m23, ok, ⟨memAt 3 rfl, memAt 4 rfl, memAt 5 rfl, memAt 6 rfl, memAt 7 rfl, trivial⟩⟩) fun hT => ?_
            refine k_take 9 E rfl (by kernel_rfl) nP hT (y_build (ps := [(0, .tmp 59), (1, .tmp 66)]) (qs := [(0, [c26]), (1, [c190])]) (cs := [c26, c190]) zero_31 places_31 rfl ⟨rfl, (pL_cells h27), rfl, ⟨rfl, (ORow.cells h192), rfl, trivial⟩⟩ rfl) rfl rfl fun a E => ?_
            refine k_all [11] (by kernel_rfl) rfl (one_c ?_)
            · refine wpOp_of_list (o := _) rfl ?_
              refine l_storeB E ok 2 rfl rfl rfl inf_31 rfl rfl ⟨(pL_one h27), (ORow.one h192), trivial⟩ rfl rfl fun w ok => ?_
              refine wpList_nil ?_
              refine t_norm ?_
              refine k_next (cl1 ⟨m23, _, le_m23, ok, ⟨memAt 3 rfl, memAt 4 rfl, memAt 5 rfl, memAt 6 rfl, memAt 7 rfl, trivial⟩⟩ ⟨m23, _, le_m23, ok, ⟨memAt 3 rfl, memAt 4 rfl, memAt 5 rfl, memAt 6 rfl, memAt 7 rfl, trivial⟩⟩) fun hT => ?_
              refine k_done (by kernel_rfl) ?_
              exact ⟨rfl, ⟨b180, c26, c190, M191, (ok.pk 8 [2, 1, 3, 4, 5, 6, 7] rfl (by decide)), E.keep [5, 7, 10, 11], h27, h192⟩⟩
      refine wpOp_of_list (o := _) rfl ?_
      refine l_slit (R := pIns) (xo := [.tmp 64]) (xs := ([more_1] : List (Ins))) E ok sl_29 zero_41 rfl ⟨⟨_, rfl, rfl, ⟨rfl, r5, r6, r7, l8⟩⟩, trivial⟩ rfl rfl rfl rfl fun c193 M194 a w E ok h195 => ?_
      refine wpList_nil ?_
      refine t_norm ?_
      refine k_next (cl1 ⟨m23, _, le_m23, ok, ⟨memAt 3 rfl, memAt 4 rfl, memAt 5 rfl, memAt 6 rfl, memAt 7 rfl, trivial⟩⟩ ⟨m23, _, le_m23, ok, ⟨memAt 3 rfl, memAt 4 rfl, memAt 5 rfl, memAt 6 rfl, memAt 7 rfl, trivial⟩⟩) fun hT => ?_
      refine k_all [5] (by kernel_rfl) rfl (one_c ?_)
      · refine wpOp_of_list (o := _) rfl ?_
        refine l_app (R := pIns) E ok 1 mIns sl_29 Tryd.underlying29 rfl h183 (SrcOK.ofL h29 ok) e69 ⟨_, zero_41, rfl⟩ rfl rfl rfl rfl fun c196 M197 a w E ok h198 => ?_
        refine wpList_nil ?_
        refine t_norm ?_
        refine k_next (cl1 ⟨m23, _, le_m23, ok, ⟨memAt 3 rfl, memAt 4 rfl, memAt 5 rfl, memAt 6 rfl, memAt 7 rfl, trivial⟩⟩ ⟨m23, _, le_m23, ok, ⟨memAt 3 rfl, memAt 4 rfl, memAt 5 rfl, memAt 6 rfl, memAt 7 rfl, trivial⟩⟩) fun hT => ?_
        refine k_all [8] (by kernel_rfl) rfl (one_c ?_)
        · refine wpOp_of_list (o := _) rfl ?_
          refine l_app (R := pIns) E ok 1 mIns sl_29 Tryd.underlying29 rfl h198 (SrcOK.ofRow h195 0 rfl ok) e77 ⟨_, zero_41, rfl⟩ rfl rfl rfl rfl fun c199 M200 a w E ok h201 => ?_
          refine wpList_nil ?_
          refine t_norm ?_
          refine k_next (cl1 ⟨m23, _, le_m23, ok, ⟨memAt 3 rfl, memAt 4 rfl, memAt 5 rfl, memAt 6 rfl, memAt 7 rfl, trivial⟩⟩ ⟨m23, _, le_m23, ok, ⟨memAt 3 rfl, memAt 4 rfl, memAt 5 rfl, memAt 6 rfl, memAt 7 rfl, trivial⟩⟩) fun hT => ?_
          refine k_take 9 E rfl (by kernel_rfl) nP hT (y_build (ps := [(0, .tmp 59), (1, .tmp 66)]) (qs := [(0, [c26]), (1, [c199])]) (cs := [c26, c199]) zero_31 places_31 rfl ⟨rfl, (pL_cells h27), rfl, ⟨rfl, (ORow.cells h201), rfl, trivial⟩⟩ rfl) rfl rfl fun a E => ?_
          refine k_all [11] (by kernel_rfl) rfl (one_c ?_)
          · refine wpOp_of_list (o := _) rfl ?_
            refine l_storeB E ok 2 rfl rfl rfl inf_31 rfl rfl ⟨(pL_one h27), (ORow.one h201), trivial⟩ rfl rfl fun w ok => ?_
            refine wpList_nil ?_
            refine t_norm ?_
            refine k_next (cl1 ⟨m23, _, le_m23, ok, ⟨memAt 3 rfl, memAt 4 rfl, memAt 5 rfl, memAt 6 rfl, memAt 7 rfl, trivial⟩⟩ ⟨m23, _, le_m23, ok, ⟨memAt 3 rfl, memAt 4 rfl, memAt 5 rfl, memAt 6 rfl, memAt 7 rfl, trivial⟩⟩) fun hT => ?_
            refine k_done (by kernel_rfl) ?_
            exact ⟨rfl, ⟨b180, c26, c199, M200, (ok.pk 8 [2, 1, 3, 4, 5, 6, 7] rfl (by decide)), E.keep [5, 7, 10, 11], h27, h201⟩⟩
  clear hJ
  intro e a w hO
  obtain ⟨rfl, b219, c214, c216, M217, ok, E, h215, h218⟩ := hO
  refine t_norm ?_
  refine wp_seq ?_
  refine c_region ?_
  refine l_val E ok (y_loadAgg (cs := [c53, c55]) agg_31 rfl rfl (Holds.own 2 rfl rfl)) rfl rfl fun a E => ?_
  obtain ⟨r220, e221, hF⟩ := bnd hF
  refine l_call E go_13 rfl (verify_Check_w N _ o37 ⟨_, _, rfl, h54, h56⟩ e221 hG ok) rfl rfl ?_
  rintro _ w ⟨⟨rfl, ok⟩, r222, r223⟩
  refine ⟨_, rfl, fun a E => ?_⟩
  refine l_val E ok (y_move rfl) rfl rfl fun a E => ?_
  refine l_val E ok (y_extract rfl rfl) rfl rfl fun a E => ?_
  refine l_val E ok (y_extract rfl rfl) rfl rfl fun a E => ?_
  refine l_val E ok (y_assign rfl) rfl rfl fun a E => ?_
  refine l_val E ok (y_assign rfl) rfl rfl fun a E => ?_
  refine wpList_nil ?_
  refine t_norm ?_
  refine wp_seq ?_
  refine c_region ?_
  refine l_val E ok (y_loadAgg (cs := [c214, c216]) agg_31 rfl rfl (Holds.own 0 rfl rfl)) rfl rfl fun a E => ?_
  obtain ⟨r229, e230, hF⟩ := bnd hF
  obtain ⟨m224, hle226, ok225, hfz227⟩ := (ok.frs 1 rfl).freeze
  have h228 := ORow.froz mIns h218 hle226 hfz227 (by decide)
  have h215' := (mL mS).up hle226 h215
  refine l_call E go_13 rfl (verify_Check_w N _ o58 ⟨_, _, rfl, h215', h228⟩ e230 hG ok225) rfl rfl ?_
  rintro _ w ⟨⟨rfl, okz⟩, r231, r232⟩
  replace ok := (Ok.thawAt 1 rfl ok hle226 hfz227 okz)
  refine ⟨_, rfl, fun a E => ?_⟩
  refine l_val E ok (y_move rfl) rfl rfl fun a E => ?_
  refine l_val E ok (y_extract rfl rfl) rfl rfl fun a E => ?_
  refine l_val E ok (y_extract rfl rfl) rfl rfl fun a E => ?_
  refine l_val E ok (y_assign rfl) rfl rfl fun a E => ?_
  refine l_val E ok (y_assign rfl) rfl rfl fun a E => ?_
  refine wpList_nil ?_
  refine t_norm ?_
  refine wp_seq ?_
  refine wp_seq ?_
  refine c_region ?_
  refine l_val E ok (y_move rfl) rfl rfl fun a E => ?_
  refine l_val E ok (y_eql rfl rfl) rfl rfl fun a E => ?_
  refine l_val E ok (y_move rfl) rfl rfl fun a E => ?_
  refine bsplit (r220.2 == 0) (fun hc233 => ?_) (fun hc233 => ?_)
  · replace hF := cond_t hc233 hF
    replace E := E.upd 80 hc233 rfl
    refine l_skip E rfl rfl fun a E => ?_
    refine l_skip E rfl rfl fun a E => ?_
    refine l_val E ok (y_pickT rfl rfl) rfl rfl fun a E => ?_
    refine wpList_nil ?_
    refine t_norm ?_
    refine c_if E rfl (fun _ => ?_) (fun h => by cases h)
    refine wp_seq ?_
    refine c_region ?_
    refine l_val E ok (y_assign rfl) rfl rfl fun a E => ?_
    refine wpList_nil ?_
    refine t_norm ?_
    refine wp_ret ?_
    refine t_ret ?_
    have hret : calquelaw34_VerifyDamage_R u m0 S false a w := ⟨(ok.drop.drop.drop.drop.drop.drop.drop).down hb0 le_m0, E.d, ⟨rv_t E rfl, trivial⟩⟩
    obtain rfl := Option.some.inj hF
    exact fin _ _ hret
  replace hF := cond_f hc233 hF
  replace E := E.upd 80 hc233 rfl
  refine l_val E ok (y_move rfl) rfl rfl fun a E => ?_
  refine l_val E ok (y_eql rfl rfl) rfl rfl fun a E => ?_
  refine l_val E ok (y_pickF rfl rfl) rfl rfl fun a E => ?_
  refine wpList_nil ?_
  refine t_norm ?_
  refine c_if E rfl (fun hc234 => ?_) (fun hc234 => ?_)
  · replace hF := cond_t hc234 hF
    refine wp_seq ?_
    refine c_region ?_
    refine l_val E ok (y_assign rfl) rfl rfl fun a E => ?_
    refine wpList_nil ?_
    refine t_norm ?_
    refine wp_ret ?_
    refine t_ret ?_
    have hret : calquelaw34_VerifyDamage_R u m0 S false a w := ⟨(ok.drop.drop.drop.drop.drop.drop.drop).down hb0 le_m0, E.d, ⟨rv_t E rfl, trivial⟩⟩
    obtain rfl := Option.some.inj hF
    exact fin _ _ hret
  replace hF := cond_f hc234 hF
  refine wp_skip ?_
  refine t_norm ?_
  refine wp_seq ?_
  refine c_region ?_
  refine l_val E ok (y_arAt art_37 rfl rfl (by decide) (by decide)) rfl rfl fun a E => ?_
  refine l_val E ok (y_load one_36 rfl (Holds.own 4 rfl rfl)) rfl rfl fun a E => ?_
  refine l_val E ok (y_conv Tryd.underlying36 Tryd.underlying3 rfl) rfl rfl fun a E => ?_
  refine l_val E ok (y_fieldAddr fo_31_1 rfl) rfl rfl fun a E => ?_
  refine l_val E ok (y_load one_29 rfl (Holds.own 3 rfl rfl)) rfl rfl fun a E => ?_
  refine l_val E ok (y_lenL sl_29 h29 rfl) rfl rfl fun a E => ?_
  obtain ⟨q235, e236, hF⟩ := bnd hF
  refine l_val E ok (y_rm rfl rfl e236) rfl rfl fun a E => ?_
  refine l_val E ok (y_assign rfl) rfl rfl fun a E => ?_
  refine wpList_nil ?_
  refine t_norm ?_
  refine wp_seq ?_
  refine wp_seq ?_
  refine c_region ?_
  refine l_val E ok (y_fieldAddr fo_31_1 rfl) rfl rfl fun a E => ?_
  refine l_val E ok (y_load one_29 rfl (Holds.own 3 rfl rfl)) rfl rfl fun a E => ?_
  refine l_val E ok (y_move rfl) rfl rfl fun a E => ?_
  obtain ⟨x237, e238, hF⟩ := bnd hF
  obtain ⟨b239, o240, es241, hl242, rr243, at244, yy245⟩ := idxAt sl_29 h29 e238 (P := Tryd.prog) (X := .tmp 92) (I := .tmp 93) (kd := .i64) (ev_of E rfl) (ev_of E rfl)
  obtain ⟨rfl, r246, r247, r248, l249⟩ := rr243
  refine l_val E ok (yy245 _ _) rfl rfl fun a E => ?_
  refine l_val E ok (y_fieldAddr fo_41_0 rfl) rfl rfl fun a E => ?_
  refine l_val E ok (y_load one_3 rfl (Holds.ro (At.sub 0 1 at244))) rfl rfl fun a E => ?_
  refine l_val E ok (y_neq rfl rfl) rfl rfl fun a E => ?_
  refine l_val E ok (y_move rfl) rfl rfl fun a E => ?_
  refine bsplit (x237.Op != 11) (fun hc250 => ?_) (fun hc250 => ?_)
  rotate_left
  · as_aux_lemma =>
      replace hF := cond_f hc250 hF
      replace E := E.upd 98 hc250 rfl
      refine l_skip E rfl rfl fun a E => ?_
      refine l_skip E rfl rfl fun a E => ?_
      refine l_skip E rfl rfl fun a E => ?_
      refine l_skip E rfl rfl fun a E => ?_
      refine l_skip E rfl rfl fun a E => ?_
      refine l_skip E rfl rfl fun a E => ?_
      refine l_skip E rfl rfl fun a E => ?_
      refine l_val E ok (y_pickF rfl rfl) rfl rfl fun a E => ?_
      refine wpList_nil ?_
      refine t_norm ?_
      refine c_if E rfl (fun h => by cases h) (fun _ => ?_)
      refine wp_skip ?_
      refine t_norm ?_
      refine wp_seq ?_
      obtain ⟨o352, hJ, hF⟩ := bnd hF
      refine c_mono (Q' := fun e a w => e = .normal ∧ ∃ b358 c353 c355 M356, Ok u m23 ([(b358, Obj.cells [c353, c355].toArray 31 (0, 0))] :: M356 :: [(b219, Obj.cells [c214, c216].toArray 31 (0, 0))] :: M217 :: [(b57, Obj.cells [c53, c55].toArray 31 (0, 0))] :: [(b30, Obj.cells [c26, c28].toArray 31 (0, 0))] :: [(b13, Obj.cells [(Value.int .u16 at_2.e0), (Value.int .u16 at_2.e1)].toArray 37 (0, 0))] :: [(b12, Obj.cells [(Value.int .i64 more_1.Op), (Value.int .i64 more_1.A), (Value.int .i64 more_1.B), (Value.string (bs more_1.S))].toArray 35 (0, 0))] :: [(b11, Obj.cells [c1, c3].toArray 25 (0, 0))] :: S) w ∧ Env 137 a [(5, (Value.pointer (some ⟨b13, 0, none⟩))), (16, (Value.int .i64 q235)), (17, (Value.pointer (some ⟨b358, 0, none⟩)))] ∧ (pL 1 pS) m23 [c353] o352.Names ∧ ORow 41 4 pIns m23 c355 o352.Ins M356) ?_ ?_
      · as_aux_lemma =>
          replace hF := hJ
          clear hJ
          obtain ⟨l362, e363, hF⟩ := bnd hF
          obtain rfl := Option.some.inj hF
          refine k_begin [] (Cls u m23 ([(b219, Obj.cells [c214, c216].toArray 31 (0, 0))] :: M217 :: [(b57, Obj.cells [c53, c55].toArray 31 (0, 0))] :: [(b30, Obj.cells [c26, c28].toArray 31 (0, 0))] :: [(b13, Obj.cells [(Value.int .u16 at_2.e0), (Value.int .u16 at_2.e1)].toArray 37 (0, 0))] :: [(b12, Obj.cells [(Value.int .i64 more_1.Op), (Value.int .i64 more_1.A), (Value.int .i64 more_1.B), (Value.string (bs more_1.S))].toArray 35 (0, 0))] :: [(b11, Obj.cells [c1, c3].toArray 25 (0, 0))] :: [])) (Cls u m23 ([(b219, Obj.cells [c214, c216].toArray 31 (0, 0))] :: M217 :: [(b57, Obj.cells [c53, c55].toArray 31 (0, 0))] :: [(b30, Obj.cells [c26, c28].toArray 31 (0, 0))] :: [(b13, Obj.cells [(Value.int .u16 at_2.e0), (Value.int .u16 at_2.e1)].toArray 37 (0, 0))] :: [(b12, Obj.cells [(Value.int .i64 more_1.Op), (Value.int .i64 more_1.A), (Value.int .i64 more_1.B), (Value.string (bs more_1.S))].toArray 35 (0, 0))] :: [(b11, Obj.cells [c1, c3].toArray 25 (0, 0))] :: [])) (by kernel_rfl) ?_
          intro w hw
          replace ok := okdrew ok hw
          clear hw
          have le_m23 := Mem.le.refl m23
          refine k_next (cl1 ⟨m23, _, le_m23, ok, ⟨memAt 0 rfl, memAt 1 rfl, memAt 2 rfl, memAt 3 rfl, memAt 4 rfl, memAt 5 rfl, memAt 6 rfl, trivial⟩⟩ ⟨m23, _, le_m23, ok, ⟨memAt 0 rfl, memAt 1 rfl, memAt 2 rfl, memAt 3 rfl, memAt 4 rfl, memAt 5 rfl, memAt 6 rfl, trivial⟩⟩) fun hT => ?_
          refine k_take 0 E rfl (by kernel_rfl) nP hT (y_fieldAddr fo_31_0 rfl) rfl rfl fun a E => ?_
          refine k_take 1 E rfl (by kernel_rfl) nP hT (y_load one_22 rfl (Holds.cown 3 rfl rfl)) rfl rfl fun a E => ?_
          refine k_take 3 E rfl (by kernel_rfl) nP hT (y_fieldAddr fo_31_1 rfl) rfl rfl fun a E => ?_
          refine k_take 4 E rfl (by kernel_rfl) nP hT (y_load one_29 rfl (Holds.cown 3 rfl rfl)) rfl rfl fun a E => ?_
          refine k_all [2, 7] (by kernel_rfl) rfl (all_c ?_ (all_c ?_ (all_n)))
          rotate_left
          · refine wpOp_of_list (o := _) rfl ?_
            refine l_alloc E ok zero_31 rfl rfl fun b379 a w E ok => ?_
            refine wpList_nil ?_
            refine t_norm ?_
            refine k_next (cl1 ⟨m23, _, le_m23, ok, ⟨memAt 1 rfl, memAt 2 rfl, memAt 3 rfl, memAt 4 rfl, memAt 5 rfl, memAt 6 rfl, memAt 7 rfl, trivial⟩⟩ ⟨m23, _, le_m23, ok, ⟨memAt 1 rfl, memAt 2 rfl, memAt 3 rfl, memAt 4 rfl, memAt 5 rfl, memAt 6 rfl, memAt 7 rfl, trivial⟩⟩) fun hT => ?_
            refine k_all [2] (by kernel_rfl) rfl (one_c ?_)
            · refine wpOp_of_list (o := _) rfl ?_
              refine l_slit (R := pIns) (xo := []) (xs := ([] : List (Ins))) E ok sl_29 zero_41 rfl trivial rfl rfl rfl rfl fun c380 M381 a w E ok h382 => ?_
              refine wpList_nil ?_
              refine t_norm ?_
              refine k_next (cl1 ⟨m23, _, le_m23, ok, ⟨memAt 2 rfl, memAt 3 rfl, memAt 4 rfl, memAt 5 rfl, memAt 6 rfl, memAt 7 rfl, memAt 8 rfl, trivial⟩⟩ ⟨m23, _, le_m23, ok, ⟨memAt 2 rfl, memAt 3 rfl, memAt 4 rfl, memAt 5 rfl, memAt 6 rfl, memAt 7 rfl, memAt 8 rfl, trivial⟩⟩) fun hT => ?_
              refine k_all [5] (by kernel_rfl) rfl (one_c ?_)
              · refine wpOp_of_list (o := _) rfl ?_
                refine l_app (R := pIns) E ok 0 mIns sl_29 Tryd.underlying29 rfl h382 (SrcOK.ofL h29 ok) e363 ⟨_, zero_41, rfl⟩ rfl rfl rfl rfl fun c383 M384 a w E ok h385 => ?_
                refine wpList_nil ?_
                refine t_norm ?_
                refine k_next (cl1 ⟨m23, _, le_m23, ok, ⟨memAt 2 rfl, memAt 3 rfl, memAt 4 rfl, memAt 5 rfl, memAt 6 rfl, memAt 7 rfl, memAt 8 rfl, trivial⟩⟩ ⟨m23, _, le_m23, ok, ⟨memAt 2 rfl, memAt 3 rfl, memAt 4 rfl, memAt 5 rfl, memAt 6 rfl, memAt 7 rfl, memAt 8 rfl, trivial⟩⟩) fun hT => ?_
                refine k_take 6 E rfl (by kernel_rfl) nP hT (y_build (ps := [(0, .tmp 108), (1, .tmp 112)]) (qs := [(0, [c26]), (1, [c383])]) (cs := [c26, c383]) zero_31 places_31 rfl ⟨rfl, (pL_cells h27), rfl, ⟨rfl, (ORow.cells h385), rfl, trivial⟩⟩ rfl) rfl rfl fun a E => ?_
                refine k_all [8] (by kernel_rfl) rfl (one_c ?_)
                · refine wpOp_of_list (o := _) rfl ?_
                  refine l_storeB E ok 1 rfl rfl rfl inf_31 rfl rfl ⟨(pL_one h27), (ORow.one h385), trivial⟩ rfl rfl fun w ok => ?_
                  refine wpList_nil ?_
                  refine t_norm ?_
                  refine k_next (cl1 ⟨m23, _, le_m23, ok, ⟨memAt 2 rfl, memAt 3 rfl, memAt 4 rfl, memAt 5 rfl, memAt 6 rfl, memAt 7 rfl, memAt 8 rfl, trivial⟩⟩ ⟨m23, _, le_m23, ok, ⟨memAt 2 rfl, memAt 3 rfl, memAt 4 rfl, memAt 5 rfl, memAt 6 rfl, memAt 7 rfl, memAt 8 rfl, trivial⟩⟩) fun hT => ?_
                  refine k_done (by kernel_rfl) ?_
                  exact ⟨rfl, ⟨b379, c26, c383, M384, (ok.pk 9 [1, 0, 2, 3, 4, 5, 6, 7, 8] rfl (by decide)), E.keep [5, 16, 17], h27, h385⟩⟩
          refine wpOp_of_list (o := _) rfl ?_
          refine l_slit (R := pIns) (xo := []) (xs := ([] : List (Ins))) E ok sl_29 zero_41 rfl trivial rfl rfl rfl rfl fun c368 M369 a w E ok h370 => ?_
          refine wpList_nil ?_
          refine t_norm ?_
          refine k_next (cl1 ⟨m23, _, le_m23, ok, ⟨memAt 1 rfl, memAt 2 rfl, memAt 3 rfl, memAt 4 rfl, memAt 5 rfl, memAt 6 rfl, memAt 7 rfl, trivial⟩⟩ ⟨m23, _, le_m23, ok, ⟨memAt 1 rfl, memAt 2 rfl, memAt 3 rfl, memAt 4 rfl, memAt 5 rfl, memAt 6 rfl, memAt 7 rfl, trivial⟩⟩) fun hT => ?_
          refine k_all [5, 7] (by kernel_rfl) rfl (all_c ?_ (all_c ?_ (all_n)))
          · refine wpOp_of_list (o := _) rfl ?_
            refine l_app (R := pIns) E ok 0 mIns sl_29 Tryd.underlying29 rfl h370 (SrcOK.ofL h29 ok) e363 ⟨_, zero_41, rfl⟩ rfl rfl rfl rfl fun c371 M372 a w E ok h373 => ?_
            refine wpList_nil ?_
            refine t_norm ?_
            refine k_next (cl1 ⟨m23, _, le_m23, ok, ⟨memAt 1 rfl, memAt 2 rfl, memAt 3 rfl, memAt 4 rfl, memAt 5 rfl, memAt 6 rfl, memAt 7 rfl, trivial⟩⟩ ⟨m23, _, le_m23, ok, ⟨memAt 1 rfl, memAt 2 rfl, memAt 3 rfl, memAt 4 rfl, memAt 5 rfl, memAt 6 rfl, memAt 7 rfl, trivial⟩⟩) fun hT => ?_
            refine k_take 6 E rfl (by kernel_rfl) nP hT (y_build (ps := [(0, .tmp 108), (1, .tmp 112)]) (qs := [(0, [c26]), (1, [c371])]) (cs := [c26, c371]) zero_31 places_31 rfl ⟨rfl, (pL_cells h27), rfl, ⟨rfl, (ORow.cells h373), rfl, trivial⟩⟩ rfl) rfl rfl fun a E => ?_
            refine k_all [7] (by kernel_rfl) rfl (one_c ?_)
            · refine wpOp_of_list (o := _) rfl ?_
              refine l_alloc E ok zero_31 rfl rfl fun b374 a w E ok => ?_
              refine wpList_nil ?_
              refine t_norm ?_
              refine k_next (cl1 ⟨m23, _, le_m23, ok, ⟨memAt 2 rfl, memAt 3 rfl, memAt 4 rfl, memAt 5 rfl, memAt 6 rfl, memAt 7 rfl, memAt 8 rfl, trivial⟩⟩ ⟨m23, _, le_m23, ok, ⟨memAt 2 rfl, memAt 3 rfl, memAt 4 rfl, memAt 5 rfl, memAt 6 rfl, memAt 7 rfl, memAt 8 rfl, trivial⟩⟩) fun hT => ?_
              refine k_all [8] (by kernel_rfl) rfl (one_c ?_)
              · refine wpOp_of_list (o := _) rfl ?_
                refine l_storeB E ok 0 rfl rfl rfl inf_31 rfl rfl ⟨(pL_one h27), (ORow.one h373), trivial⟩ rfl rfl fun w ok => ?_
                refine wpList_nil ?_
                refine t_norm ?_
                refine k_next (cl1 ⟨m23, _, le_m23, ok, ⟨memAt 2 rfl, memAt 3 rfl, memAt 4 rfl, memAt 5 rfl, memAt 6 rfl, memAt 7 rfl, memAt 8 rfl, trivial⟩⟩ ⟨m23, _, le_m23, ok, ⟨memAt 2 rfl, memAt 3 rfl, memAt 4 rfl, memAt 5 rfl, memAt 6 rfl, memAt 7 rfl, memAt 8 rfl, trivial⟩⟩) fun hT => ?_
                refine k_done (by kernel_rfl) ?_
                exact ⟨rfl, ⟨b374, c26, c371, M372, ok, E.keep [5, 16, 17], h27, h373⟩⟩
          refine wpOp_of_list (o := _) rfl ?_
          refine l_alloc E ok zero_31 rfl rfl fun b375 a w E ok => ?_
          refine wpList_nil ?_
          refine t_norm ?_
          refine k_next (cl1 ⟨m23, _, le_m23, ok, ⟨memAt 2 rfl, memAt 3 rfl, memAt 4 rfl, memAt 5 rfl, memAt 6 rfl, memAt 7 rfl, memAt 8 rfl, trivial⟩⟩ ⟨m23, _, le_m23, ok, ⟨memAt 2 rfl, memAt 3 rfl, memAt 4 rfl, memAt 5 rfl, memAt 6 rfl, memAt 7 rfl, memAt 8 rfl, trivial⟩⟩) fun hT => ?_
          refine k_all [5] (by kernel_rfl) rfl (one_c ?_)
          · refine wpOp_of_list (o := _) rfl ?_
            refine l_app (R := pIns) E ok 1 mIns sl_29 Tryd.underlying29 rfl h370 (SrcOK.ofL h29 ok) e363 ⟨_, zero_41, rfl⟩ rfl rfl rfl rfl fun c376 M377 a w E ok h378 => ?_
            refine wpList_nil ?_
            refine t_norm ?_
            refine k_next (cl1 ⟨m23, _, le_m23, ok, ⟨memAt 2 rfl, memAt 3 rfl, memAt 4 rfl, memAt 5 rfl, memAt 6 rfl, memAt 7 rfl, memAt 8 rfl, trivial⟩⟩ ⟨m23, _, le_m23, ok, ⟨memAt 2 rfl, memAt 3 rfl, memAt 4 rfl, memAt 5 rfl, memAt 6 rfl, memAt 7 rfl, memAt 8 rfl, trivial⟩⟩) fun hT => ?_
            refine k_take 6 E rfl (by kernel_rfl) nP hT (y_build (ps := [(0, .tmp 108), (1, .tmp 112)]) (qs := [(0, [c26]), (1, [c376])]) (cs := [c26, c376]) zero_31 places_31 rfl ⟨rfl, (pL_cells h27), rfl, ⟨rfl, (ORow.cells h378), rfl, trivial⟩⟩ rfl) rfl rfl fun a E => ?_
            refine k_all [8] (by kernel_rfl) rfl (one_c ?_)
            · refine wpOp_of_list (o := _) rfl ?_
              refine l_storeB E ok 0 rfl rfl rfl inf_31 rfl rfl ⟨(pL_one h27), (ORow.one h378), trivial⟩ rfl rfl fun w ok => ?_
              refine wpList_nil ?_
              refine t_norm ?_
              refine k_next (cl1 ⟨m23, _, le_m23, ok, ⟨memAt 2 rfl, memAt 3 rfl, memAt 4 rfl, memAt 5 rfl, memAt 6 rfl, memAt 7 rfl, memAt 8 rfl, trivial⟩⟩ ⟨m23, _, le_m23, ok, ⟨memAt 2 rfl, memAt 3 rfl, memAt 4 rfl, memAt 5 rfl, memAt 6 rfl, memAt 7 rfl, memAt 8 rfl, trivial⟩⟩) fun hT => ?_
              refine k_done (by kernel_rfl) ?_
              exact ⟨rfl, ⟨b375, c26, c376, M377, ok, E.keep [5, 16, 17], h27, h378⟩⟩
      clear hJ
      intro e a w hO
      obtain ⟨rfl, b391, c386, c388, M389, ok, E, h387, h390⟩ := hO
      refine t_norm ?_
      refine wp_seq ?_
      obtain ⟨o392, hJ, hF⟩ := bnd hF
      refine c_mono (Q' := fun e a w => e = .normal ∧ ∃ c393 c395 M396, Ok u m23 ([(b391, Obj.cells [c393, c395].toArray 31 (0, 0))] :: M396 :: [(b219, Obj.cells [c214, c216].toArray 31 (0, 0))] :: M217 :: [(b57, Obj.cells [c53, c55].toArray 31 (0, 0))] :: [(b30, Obj.cells [c26, c28].toArray 31 (0, 0))] :: [(b13, Obj.cells [(Value.int .u16 at_2.e0), (Value.int .u16 at_2.e1)].toArray 37 (0, 0))] :: [(b12, Obj.cells [(Value.int .i64 more_1.Op), (Value.int .i64 more_1.A), (Value.int .i64 more_1.B), (Value.string (bs more_1.S))].toArray 35 (0, 0))] :: [(b11, Obj.cells [c1, c3].toArray 25 (0, 0))] :: S) w ∧ Env 137 a [(16, (Value.int .i64 q235)), (17, (Value.pointer (some ⟨b391, 0, none⟩)))] ∧ (pL 1 pS) m23 [c393] o392.Names ∧ ORow 41 4 pIns m23 c395 o392.Ins M396) ?_ ?_
      · replace hF := hJ
        clear hJ
        obtain ⟨q398, e399, hF⟩ := bnd hF
        obtain ⟨x400, e401, hF⟩ := bnd hF
        obtain ⟨l410, e411, hF⟩ := bnd hF
        obtain rfl := Option.some.inj hF
        refine k_begin [1, 4] (Cls u m23 ([(b391, Obj.cells [c386, c388].toArray 31 (0, 0))] :: [(b219, Obj.cells [c214, c216].toArray 31 (0, 0))] :: M217 :: [(b57, Obj.cells [c53, c55].toArray 31 (0, 0))] :: [(b30, Obj.cells [c26, c28].toArray 31 (0, 0))] :: [(b13, Obj.cells [(Value.int .u16 at_2.e0), (Value.int .u16 at_2.e1)].toArray 37 (0, 0))] :: [(b12, Obj.cells [(Value.int .i64 more_1.Op), (Value.int .i64 more_1.A), (Value.int .i64 more_1.B), (Value.string (bs more_1.S))].toArray 35 (0, 0))] :: [(b11, Obj.cells [c1, c3].toArray 25 (0, 0))] :: [])) (Cls u m23 ([(b219, Obj.cells [c214, c216].toArray 31 (0, 0))] :: M217 :: [(b57, Obj.cells [c53, c55].toArray 31 (0, 0))] :: [(b30, Obj.cells [c26, c28].toArray 31 (0, 0))] :: [(b13, Obj.cells [(Value.int .u16 at_2.e0), (Value.int .u16 at_2.e1)].toArray 37 (0, 0))] :: [(b12, Obj.cells [(Value.int .i64 more_1.Op), (Value.int .i64 more_1.A), (Value.int .i64 more_1.B), (Value.string (bs more_1.S))].toArray 35 (0, 0))] :: [(b11, Obj.cells [c1, c3].toArray 25 (0, 0))] :: [])) (by kernel_rfl) ?_
        intro w hw
        replace ok := okdrew ok hw
        clear hw
        have le_m23 := Mem.le.refl m23
        refine k_next (cl1 ⟨m23, _, le_m23, ok, ⟨memAt 0 rfl, memAt 2 rfl, memAt 3 rfl, memAt 4 rfl, memAt 5 rfl, memAt 6 rfl, memAt 7 rfl, memAt 8 rfl, trivial⟩⟩ ⟨m23, _, le_m23, ok, ⟨memAt 2 rfl, memAt 3 rfl, memAt 4 rfl, memAt 5 rfl, memAt 6 rfl, memAt 7 rfl, memAt 8 rfl, trivial⟩⟩) fun hT => ?_
        refine k_take 0 E rfl (by kernel_rfl) nP hT (y_fieldAddr fo_31_1 rfl) rfl rfl fun a E => ?_
        refine k_takeN 1 E rfl (by kernel_rfl) nP hT (y_load one_29 rfl (Holds.cown 0 rfl rfl)) rfl rfl fun a E => ?_
        refine k_take 2 E rfl (by kernel_rfl) nP hT (y_move rfl) rfl rfl fun a E => ?_
        refine k_take 3 E rfl (by kernel_rfl) nP hT (y_arAt art_37 rfl rfl (by decide) (by decide)) rfl rfl fun a E => ?_
        refine k_takeN 4 E rfl (by kernel_rfl) nP hT (y_load one_36 rfl (Holds.cown 5 rfl rfl)) rfl rfl fun a E => ?_
        refine k_take 5 E rfl (by kernel_rfl) nP hT (y_conv Tryd.underlying36 Tryd.underlying3 rfl) rfl rfl fun a E => ?_
        refine k_take 6 E rfl (by kernel_rfl) nP hT (y_move rfl) rfl rfl fun a E => ?_
        refine k_take 7 E rfl (by kernel_rfl) nP hT (y_addw rfl rfl) rfl rfl fun a E => ?_
        refine k_take 8 E rfl (by kernel_rfl) nP hT (y_rm rfl rfl e399) rfl rfl fun a E => ?_
        obtain ⟨b414, o415, hp416, yy417⟩ := orowAt sl_29 h390 e401 (P := Tryd.prog) (X := .tmp 115) (I := .tmp 116) (kd := .i64) (ev_of E rfl) (ev_of E rfl)
        refine k_take 9 E rfl (by kernel_rfl) nP hT (yy417 _ _) rfl rfl fun a E => ?_
        refine k_take 10 E rfl (by kernel_rfl) nP hT (y_fieldAddr fo_41_1 rfl) rfl rfl fun a E => ?_
        refine k_all [11] (by kernel_rfl) rfl (one_c ?_)
        · refine wpOp_of_list (o := _) rfl ?_
          refine l_storeRowF (R := pIns) (f := 1) E ok 1 rfl h390 e401 hp416 rfl rfl rfl inf_3 rfl rfl rfl ⟨rfl, trivial⟩ (fun es _ h => by obtain ⟨rfl, r418, r419, r420, l421⟩ := h; exact ⟨rfl, r418, (rm_InR e399 (InR.wrap _ _)), r420, l421⟩) e411 rfl fun M422 w ok h423 => ?_
          refine wpList_nil ?_
          refine t_norm ?_
          refine k_next (cl2 (by kernel_rfl) ⟨m23, _, le_m23, ok, ⟨memAt 2 rfl, memAt 3 rfl, memAt 4 rfl, memAt 5 rfl, memAt 6 rfl, memAt 7 rfl, memAt 8 rfl, trivial⟩⟩) fun hT => ?_
          refine k_done (by kernel_rfl) ?_
          exact ⟨rfl, ⟨c386, c388, M422, ok, E.keep [16, 17], h387, h423⟩⟩
      clear hJ
      intro e a w hO
      obtain ⟨rfl, c424, c426, M427, ok, E, h425, h428⟩ := hO
      refine t_norm ?_
      refine wp_seq ?_
      refine c_region ?_
      refine l_val E ok (y_loadAgg (cs := [c424, c426]) agg_31 rfl rfl (Holds.own 0 rfl rfl)) rfl rfl fun a E => ?_
      obtain ⟨r434, e435, hF⟩ := bnd hF
      obtain ⟨m429, hle431, ok430, hfz432⟩ := (ok.frs 1 rfl).freeze
      have h433 := ORow.froz mIns h428 hle431 hfz432 (by decide)
      have h425' := (mL mS).up hle431 h425
      refine l_call E go_13 rfl (verify_Check_w N _ o392 ⟨_, _, rfl, h425', h433⟩ e435 hG ok430) rfl rfl ?_
      rintro _ w ⟨⟨rfl, okz⟩, r436, r437⟩
      replace ok := (Ok.thawAt 1 rfl ok hle431 hfz432 okz)
      refine ⟨_, rfl, fun a E => ?_⟩
      refine l_val E ok (y_move rfl) rfl rfl fun a E => ?_
      refine l_val E ok (y_extract rfl rfl) rfl rfl fun a E => ?_
      refine l_val E ok (y_extract rfl rfl) rfl rfl fun a E => ?_
      refine l_val E ok (y_assign rfl) rfl rfl fun a E => ?_
      refine l_val E ok (y_assign rfl) rfl rfl fun a E => ?_
      refine wpList_nil ?_
      refine t_norm ?_
      refine wp_seq ?_
      refine c_region ?_
      refine l_val E ok (y_move rfl) rfl rfl fun a E => ?_
      refine l_val E ok (y_eql rfl rfl) rfl rfl fun a E => ?_
      refine l_val E ok (y_move rfl) rfl rfl fun a E => ?_
      refine bsplit (r434.2 == 4) (fun hc438 => ?_) (fun hc438 => ?_)
      · replace hF := cond_t hc438 hF
        replace E := E.upd 132 hc438 rfl
        refine l_val E ok (y_move rfl) rfl rfl fun a E => ?_
        refine l_val E ok (y_move rfl) rfl rfl fun a E => ?_
        refine l_val E ok (y_leq rfl rfl) rfl rfl fun a E => ?_
        refine l_val E ok (y_pickT rfl rfl) rfl rfl fun a E => ?_
        refine l_val E ok (y_assign rfl) rfl rfl fun a E => ?_
        refine wpList_nil ?_
        refine t_norm ?_
        refine wp_ret ?_
        have hret : calquelaw34_VerifyDamage_R u m0 S (decide (r434.1 ≤ q235)) a w := ⟨(ok.drop.drop.drop.drop.drop.drop.drop.drop.drop).down hb0 le_m0, E.d, ⟨rv_t E rfl, trivial⟩⟩
        obtain rfl := Option.some.inj hF
        exact fin _ _ hret
      replace hF := cond_f hc438 hF
      replace E := E.upd 132 hc438 rfl
      refine l_skip E rfl rfl fun a E => ?_
      refine l_skip E rfl rfl fun a E => ?_
      refine l_skip E rfl rfl fun a E => ?_
      refine l_val E ok (y_pickF rfl rfl) rfl rfl fun a E => ?_
      refine l_val E ok (y_assign rfl) rfl rfl fun a E => ?_
      refine wpList_nil ?_
      refine t_norm ?_
      refine wp_ret ?_
      have hret : calquelaw34_VerifyDamage_R u m0 S false a w := ⟨(ok.drop.drop.drop.drop.drop.drop.drop.drop.drop).down hb0 le_m0, E.d, ⟨rv_t E rfl, trivial⟩⟩
      obtain rfl := Option.some.inj hF
      exact fin _ _ hret
  replace hF := cond_t hc250 hF
  replace E := E.upd 98 hc250 rfl
  refine l_val E ok (y_fieldAddr fo_31_1 rfl) rfl rfl fun a E => ?_
  refine l_val E ok (y_load one_29 rfl (Holds.own 3 rfl rfl)) rfl rfl fun a E => ?_
  refine l_val E ok (y_move rfl) rfl rfl fun a E => ?_
  obtain ⟨x251, e252, hF⟩ := bnd hF
  obtain ⟨b253, o254, es255, hl256, rr257, at258, yy259⟩ := idxAt sl_29 h29 e252 (P := Tryd.prog) (X := .tmp 100) (I := .tmp 101) (kd := .i64) (ev_of E rfl) (ev_of E rfl)
  obtain ⟨rfl, r260, r261, r262, l263⟩ := rr257
  refine l_val E ok (yy259 _ _) rfl rfl fun a E => ?_
  refine l_val E ok (y_fieldAddr fo_41_0 rfl) rfl rfl fun a E => ?_
  refine l_val E ok (y_load one_3 rfl (Holds.ro (At.sub 0 1 at258))) rfl rfl fun a E => ?_
  refine l_val E ok (y_neq rfl rfl) rfl rfl fun a E => ?_
  refine l_val E ok (y_pickT rfl rfl) rfl rfl fun a E => ?_
  refine wpList_nil ?_
  refine t_norm ?_
  refine c_if E rfl (fun hc264 => ?_) (fun hc264 => ?_)
  · replace hF := cond_t hc264 hF
    refine wp_seq ?_
    refine c_region ?_
    refine l_val E ok (y_assign rfl) rfl rfl fun a E => ?_
    refine wpList_nil ?_
    refine t_norm ?_
    refine wp_ret ?_
    refine t_ret ?_
    have hret : calquelaw34_VerifyDamage_R u m0 S true a w := ⟨(ok.drop.drop.drop.drop.drop.drop.drop).down hb0 le_m0, E.d, ⟨rv_t E rfl, trivial⟩⟩
    obtain rfl := Option.some.inj hF
    exact fin _ _ hret
  replace hF := cond_f hc264 hF
  refine wp_skip ?_
  refine t_norm ?_
  refine wp_seq ?_
  obtain ⟨o265, hJ, hF⟩ := bnd hF
  refine c_mono (Q' := fun e a w => e = .normal ∧ ∃ b271 c266 c268 M269, Ok u m23 ([(b271, Obj.cells [c266, c268].toArray 31 (0, 0))] :: M269 :: [(b219, Obj.cells [c214, c216].toArray 31 (0, 0))] :: M217 :: [(b57, Obj.cells [c53, c55].toArray 31 (0, 0))] :: [(b30, Obj.cells [c26, c28].toArray 31 (0, 0))] :: [(b13, Obj.cells [(Value.int .u16 at_2.e0), (Value.int .u16 at_2.e1)].toArray 37 (0, 0))] :: [(b12, Obj.cells [(Value.int .i64 more_1.Op), (Value.int .i64 more_1.A), (Value.int .i64 more_1.B), (Value.string (bs more_1.S))].toArray 35 (0, 0))] :: [(b11, Obj.cells [c1, c3].toArray 25 (0, 0))] :: S) w ∧ Env 137 a [(5, (Value.pointer (some ⟨b13, 0, none⟩))), (16, (Value.int .i64 q235)), (17, (Value.pointer (some ⟨b271, 0, none⟩)))] ∧ (pL 1 pS) m23 [c266] o265.Names ∧ ORow 41 4 pIns m23 c268 o265.Ins M269) ?_ ?_
  · as_aux_lemma =>
      replace hF := hJ
      clear hJ
      obtain ⟨l275, e276, hF⟩ := bnd hF
      obtain rfl := Option.some.inj hF
      refine k_begin [] (Cls u m23 ([(b219, Obj.cells [c214, c216].toArray 31 (0, 0))] :: M217 :: [(b57, Obj.cells [c53, c55].toArray 31 (0, 0))] :: [(b30, Obj.cells [c26, c28].toArray 31 (0, 0))] :: [(b13, Obj.cells [(Value.int .u16 at_2.e0), (Value.int .u16 at_2.e1)].toArray 37 (0, 0))] :: [(b12, Obj.cells [(Value.int .i64 more_1.Op), (Value.int .i64 more_1.A), (Value.int .i64 more_1.B), (Value.string (bs more_1.S))].toArray 35 (0, 0))] :: [(b11, Obj.cells [c1, c3].toArray 25 (0, 0))] :: [])) (Cls u m23 ([(b219, Obj.cells [c214, c216].toArray 31 (0, 0))] :: M217 :: [(b57, Obj.cells [c53, c55].toArray 31 (0, 0))] :: [(b30, Obj.cells [c26, c28].toArray 31 (0, 0))] :: [(b13, Obj.cells [(Value.int .u16 at_2.e0), (Value.int .u16 at_2.e1)].toArray 37 (0, 0))] :: [(b12, Obj.cells [(Value.int .i64 more_1.Op), (Value.int .i64 more_1.A), (Value.int .i64 more_1.B), (Value.string (bs more_1.S))].toArray 35 (0, 0))] :: [(b11, Obj.cells [c1, c3].toArray 25 (0, 0))] :: [])) (by kernel_rfl) ?_
      intro w hw
      replace ok := okdrew ok hw
      clear hw
      have le_m23 := Mem.le.refl m23
      refine k_next (cl1 ⟨m23, _, le_m23, ok, ⟨memAt 0 rfl, memAt 1 rfl, memAt 2 rfl, memAt 3 rfl, memAt 4 rfl, memAt 5 rfl, memAt 6 rfl, trivial⟩⟩ ⟨m23, _, le_m23, ok, ⟨memAt 0 rfl, memAt 1 rfl, memAt 2 rfl, memAt 3 rfl, memAt 4 rfl, memAt 5 rfl, memAt 6 rfl, trivial⟩⟩) fun hT => ?_
      refine k_take 0 E rfl (by kernel_rfl) nP hT (y_fieldAddr fo_31_0 rfl) rfl rfl fun a E => ?_
      refine k_take 1 E rfl (by kernel_rfl) nP hT (y_load one_22 rfl (Holds.cown 3 rfl rfl)) rfl rfl fun a E => ?_
      refine k_take 3 E rfl (by kernel_rfl) nP hT (y_fieldAddr fo_31_1 rfl) rfl rfl fun a E => ?_
      refine k_take 4 E rfl (by kernel_rfl) nP hT (y_load one_29 rfl (Holds.cown 3 rfl rfl)) rfl rfl fun a E => ?_
      refine k_all [2, 7] (by kernel_rfl) rfl (all_c ?_ (all_c ?_ (all_n)))
      rotate_left
      · refine wpOp_of_list (o := _) rfl ?_
        refine l_alloc E ok zero_31 rfl rfl fun b292 a w E ok => ?_
        refine wpList_nil ?_
        refine t_norm ?_
        refine k_next (cl1 ⟨m23, _, le_m23, ok, ⟨memAt 1 rfl, memAt 2 rfl, memAt 3 rfl, memAt 4 rfl, memAt 5 rfl, memAt 6 rfl, memAt 7 rfl, trivial⟩⟩ ⟨m23, _, le_m23, ok, ⟨memAt 1 rfl, memAt 2 rfl, memAt 3 rfl, memAt 4 rfl, memAt 5 rfl, memAt 6 rfl, memAt 7 rfl, trivial⟩⟩) fun hT => ?_
        refine k_all [2] (by kernel_rfl) rfl (one_c ?_)
        · refine wpOp_of_list (o := _) rfl ?_
          refine l_slit (R := pIns) (xo := []) (xs := ([] : List (Ins))) E ok sl_29 zero_41 rfl trivial rfl rfl rfl rfl fun c293 M294 a w E ok h295 => ?_
          refine wpList_nil ?_
          refine t_norm ?_
          refine k_next (cl1 ⟨m23, _, le_m23, ok, ⟨memAt 2 rfl, memAt 3 rfl, memAt 4 rfl, memAt 5 rfl, memAt 6 rfl, memAt 7 rfl, memAt 8 rfl, trivial⟩⟩ ⟨m23, _, le_m23, ok, ⟨memAt 2 rfl, memAt 3 rfl, memAt 4 rfl, memAt 5 rfl, memAt 6 rfl, memAt 7 rfl, memAt 8 rfl, trivial⟩⟩) fun hT => ?_
          refine k_all [5] (by kernel_rfl) rfl (one_c ?_)
          · refine wpOp_of_list (o := _) rfl ?_
            refine l_app (R := pIns) E ok 0 mIns sl_29 Tryd.underlying29 rfl h295 (SrcOK.ofL h29 ok) e276 ⟨_, zero_41, rfl⟩ rfl rfl rfl rfl fun c296 M297 a w E ok h298 => ?_
            refine wpList_nil ?_
            refine t_norm ?_
            refine k_next (cl1 ⟨m23, _, le_m23, ok, ⟨memAt 2 rfl, memAt 3 rfl, memAt 4 rfl, memAt 5 rfl, memAt 6 rfl, memAt 7 rfl, memAt 8 rfl, trivial⟩⟩ ⟨m23, _, le_m23, ok, ⟨memAt 2 rfl, memAt 3 rfl, memAt 4 rfl, memAt 5 rfl, memAt 6 rfl, memAt 7 rfl, memAt 8 rfl, trivial⟩⟩) fun hT => ?_
            refine k_take 6 E rfl (by kernel_rfl) nP hT (y_build (ps := [(0, .tmp 108), (1, .tmp 112)]) (qs := [(0, [c26]), (1, [c296])]) (cs := [c26, c296]) zero_31 places_31 rfl ⟨rfl, (pL_cells h27), rfl, ⟨rfl, (ORow.cells h298), rfl, trivial⟩⟩ rfl) rfl rfl fun a E => ?_
            refine k_all [8] (by kernel_rfl) rfl (one_c ?_)
            · refine wpOp_of_list (o := _) rfl ?_
              refine l_storeB E ok 1 rfl rfl rfl inf_31 rfl rfl ⟨(pL_one h27), (ORow.one h298), trivial⟩ rfl rfl fun w ok => ?_
              refine wpList_nil ?_
              refine t_norm ?_
              refine k_next (cl1 ⟨m23, _, le_m23, ok, ⟨memAt 2 rfl, memAt 3 rfl, memAt 4 rfl, memAt 5 rfl, memAt 6 rfl, memAt 7 rfl, memAt 8 rfl, trivial⟩⟩ ⟨m23, _, le_m23, ok, ⟨memAt 2 rfl, memAt 3 rfl, memAt 4 rfl, memAt 5 rfl, memAt 6 rfl, memAt 7 rfl, memAt 8 rfl, trivial⟩⟩) fun hT => ?_
              refine k_done (by kernel_rfl) ?_
              exact ⟨rfl, ⟨b292, c26, c296, M297, (ok.pk 9 [1, 0, 2, 3, 4, 5, 6, 7, 8] rfl (by decide)), E.keep [5, 16, 17], h27, h298⟩⟩
      refine wpOp_of_list (o := _) rfl ?_
      refine l_slit (R := pIns) (xo := []) (xs := ([] : List (Ins))) E ok sl_29 zero_41 rfl trivial rfl rfl rfl rfl fun c281 M282 a w E ok h283 => ?_
      refine wpList_nil ?_
      refine t_norm ?_
      refine k_next (cl1 ⟨m23, _, le_m23, ok, ⟨memAt 1 rfl, memAt 2 rfl, memAt 3 rfl, memAt 4 rfl, memAt 5 rfl, memAt 6 rfl, memAt 7 rfl, trivial⟩⟩ ⟨m23, _, le_m23, ok, ⟨memAt 1 rfl, memAt 2 rfl, memAt 3 rfl, memAt 4 rfl, memAt 5 rfl, memAt 6 rfl, memAt 7 rfl, trivial⟩⟩) fun hT => ?_
      refine k_all [5, 7] (by kernel_rfl) rfl (all_c ?_ (all_c ?_ (all_n)))
      · refine wpOp_of_list (o := _) rfl ?_
        refine l_app (R := pIns) E ok 0 mIns sl_29 Tryd.underlying29 rfl h283 (SrcOK.ofL h29 ok) e276 ⟨_, zero_41, rfl⟩ rfl rfl rfl rfl fun c284 M285 a w E ok h286 => ?_
        refine wpList_nil ?_
        refine t_norm ?_
        refine k_next (cl1 ⟨m23, _, le_m23, ok, ⟨memAt 1 rfl, memAt 2 rfl, memAt 3 rfl, memAt 4 rfl, memAt 5 rfl, memAt 6 rfl, memAt 7 rfl, trivial⟩⟩ ⟨m23, _, le_m23, ok, ⟨memAt 1 rfl, memAt 2 rfl, memAt 3 rfl, memAt 4 rfl, memAt 5 rfl, memAt 6 rfl, memAt 7 rfl, trivial⟩⟩) fun hT => ?_
        refine k_take 6 E rfl (by kernel_rfl) nP hT (y_build (ps := [(0, .tmp 108), (1, .tmp 112)]) (qs := [(0, [c26]), (1, [c284])]) (cs := [c26, c284]) zero_31 places_31 rfl ⟨rfl, (pL_cells h27), rfl, ⟨rfl, (ORow.cells h286), rfl, trivial⟩⟩ rfl) rfl rfl fun a E => ?_
        refine k_all [7] (by kernel_rfl) rfl (one_c ?_)
        · refine wpOp_of_list (o := _) rfl ?_
          refine l_alloc E ok zero_31 rfl rfl fun b287 a w E ok => ?_
          refine wpList_nil ?_
          refine t_norm ?_
          refine k_next (cl1 ⟨m23, _, le_m23, ok, ⟨memAt 2 rfl, memAt 3 rfl, memAt 4 rfl, memAt 5 rfl, memAt 6 rfl, memAt 7 rfl, memAt 8 rfl, trivial⟩⟩ ⟨m23, _, le_m23, ok, ⟨memAt 2 rfl, memAt 3 rfl, memAt 4 rfl, memAt 5 rfl, memAt 6 rfl, memAt 7 rfl, memAt 8 rfl, trivial⟩⟩) fun hT => ?_
          refine k_all [8] (by kernel_rfl) rfl (one_c ?_)
          · refine wpOp_of_list (o := _) rfl ?_
            refine l_storeB E ok 0 rfl rfl rfl inf_31 rfl rfl ⟨(pL_one h27), (ORow.one h286), trivial⟩ rfl rfl fun w ok => ?_
            refine wpList_nil ?_
            refine t_norm ?_
            refine k_next (cl1 ⟨m23, _, le_m23, ok, ⟨memAt 2 rfl, memAt 3 rfl, memAt 4 rfl, memAt 5 rfl, memAt 6 rfl, memAt 7 rfl, memAt 8 rfl, trivial⟩⟩ ⟨m23, _, le_m23, ok, ⟨memAt 2 rfl, memAt 3 rfl, memAt 4 rfl, memAt 5 rfl, memAt 6 rfl, memAt 7 rfl, memAt 8 rfl, trivial⟩⟩) fun hT => ?_
            refine k_done (by kernel_rfl) ?_
            exact ⟨rfl, ⟨b287, c26, c284, M285, ok, E.keep [5, 16, 17], h27, h286⟩⟩
      refine wpOp_of_list (o := _) rfl ?_
      refine l_alloc E ok zero_31 rfl rfl fun b288 a w E ok => ?_
      refine wpList_nil ?_
      refine t_norm ?_
      refine k_next (cl1 ⟨m23, _, le_m23, ok, ⟨memAt 2 rfl, memAt 3 rfl, memAt 4 rfl, memAt 5 rfl, memAt 6 rfl, memAt 7 rfl, memAt 8 rfl, trivial⟩⟩ ⟨m23, _, le_m23, ok, ⟨memAt 2 rfl, memAt 3 rfl, memAt 4 rfl, memAt 5 rfl, memAt 6 rfl, memAt 7 rfl, memAt 8 rfl, trivial⟩⟩) fun hT => ?_
      refine k_all [5] (by kernel_rfl) rfl (one_c ?_)
      · refine wpOp_of_list (o := _) rfl ?_
        refine l_app (R := pIns) E ok 1 mIns sl_29 Tryd.underlying29 rfl h283 (SrcOK.ofL h29 ok) e276 ⟨_, zero_41, rfl⟩ rfl rfl rfl rfl fun c289 M290 a w E ok h291 => ?_
        refine wpList_nil ?_
        refine t_norm ?_
        refine k_next (cl1 ⟨m23, _, le_m23, ok, ⟨memAt 2 rfl, memAt 3 rfl, memAt 4 rfl, memAt 5 rfl, memAt 6 rfl, memAt 7 rfl, memAt 8 rfl, trivial⟩⟩ ⟨m23, _, le_m23, ok, ⟨memAt 2 rfl, memAt 3 rfl, memAt 4 rfl, memAt 5 rfl, memAt 6 rfl, memAt 7 rfl, memAt 8 rfl, trivial⟩⟩) fun hT => ?_
        refine k_take 6 E rfl (by kernel_rfl) nP hT (y_build (ps := [(0, .tmp 108), (1, .tmp 112)]) (qs := [(0, [c26]), (1, [c289])]) (cs := [c26, c289]) zero_31 places_31 rfl ⟨rfl, (pL_cells h27), rfl, ⟨rfl, (ORow.cells h291), rfl, trivial⟩⟩ rfl) rfl rfl fun a E => ?_
        refine k_all [8] (by kernel_rfl) rfl (one_c ?_)
        · refine wpOp_of_list (o := _) rfl ?_
          refine l_storeB E ok 0 rfl rfl rfl inf_31 rfl rfl ⟨(pL_one h27), (ORow.one h291), trivial⟩ rfl rfl fun w ok => ?_
          refine wpList_nil ?_
          refine t_norm ?_
          refine k_next (cl1 ⟨m23, _, le_m23, ok, ⟨memAt 2 rfl, memAt 3 rfl, memAt 4 rfl, memAt 5 rfl, memAt 6 rfl, memAt 7 rfl, memAt 8 rfl, trivial⟩⟩ ⟨m23, _, le_m23, ok, ⟨memAt 2 rfl, memAt 3 rfl, memAt 4 rfl, memAt 5 rfl, memAt 6 rfl, memAt 7 rfl, memAt 8 rfl, trivial⟩⟩) fun hT => ?_
          refine k_done (by kernel_rfl) ?_
          exact ⟨rfl, ⟨b288, c26, c289, M290, ok, E.keep [5, 16, 17], h27, h291⟩⟩
  clear hJ
  intro e a w hO
  obtain ⟨rfl, b304, c299, c301, M302, ok, E, h300, h303⟩ := hO
  refine t_norm ?_
  refine wp_seq ?_
  obtain ⟨o305, hJ, hF⟩ := bnd hF
  refine c_mono (Q' := fun e a w => e = .normal ∧ ∃ c306 c308 M309, Ok u m23 ([(b304, Obj.cells [c306, c308].toArray 31 (0, 0))] :: M309 :: [(b219, Obj.cells [c214, c216].toArray 31 (0, 0))] :: M217 :: [(b57, Obj.cells [c53, c55].toArray 31 (0, 0))] :: [(b30, Obj.cells [c26, c28].toArray 31 (0, 0))] :: [(b13, Obj.cells [(Value.int .u16 at_2.e0), (Value.int .u16 at_2.e1)].toArray 37 (0, 0))] :: [(b12, Obj.cells [(Value.int .i64 more_1.Op), (Value.int .i64 more_1.A), (Value.int .i64 more_1.B), (Value.string (bs more_1.S))].toArray 35 (0, 0))] :: [(b11, Obj.cells [c1, c3].toArray 25 (0, 0))] :: S) w ∧ Env 137 a [(16, (Value.int .i64 q235)), (17, (Value.pointer (some ⟨b304, 0, none⟩)))] ∧ (pL 1 pS) m23 [c306] o305.Names ∧ ORow 41 4 pIns m23 c308 o305.Ins M309) ?_ ?_
  · replace hF := hJ
    clear hJ
    obtain ⟨q311, e312, hF⟩ := bnd hF
    obtain ⟨x313, e314, hF⟩ := bnd hF
    obtain ⟨l323, e324, hF⟩ := bnd hF
    obtain rfl := Option.some.inj hF
    refine k_begin [1, 4] (Cls u m23 ([(b304, Obj.cells [c299, c301].toArray 31 (0, 0))] :: [(b219, Obj.cells [c214, c216].toArray 31 (0, 0))] :: M217 :: [(b57, Obj.cells [c53, c55].toArray 31 (0, 0))] :: [(b30, Obj.cells [c26, c28].toArray 31 (0, 0))] :: [(b13, Obj.cells [(Value.int .u16 at_2.e0), (Value.int .u16 at_2.e1)].toArray 37 (0, 0))] :: [(b12, Obj.cells [(Value.int .i64 more_1.Op), (Value.int .i64 more_1.A), (Value.int .i64 more_1.B), (Value.string (bs more_1.S))].toArray 35 (0, 0))] :: [(b11, Obj.cells [c1, c3].toArray 25 (0, 0))] :: [])) (Cls u m23 ([(b219, Obj.cells [c214, c216].toArray 31 (0, 0))] :: M217 :: [(b57, Obj.cells [c53, c55].toArray 31 (0, 0))] :: [(b30, Obj.cells [c26, c28].toArray 31 (0, 0))] :: [(b13, Obj.cells [(Value.int .u16 at_2.e0), (Value.int .u16 at_2.e1)].toArray 37 (0, 0))] :: [(b12, Obj.cells [(Value.int .i64 more_1.Op), (Value.int .i64 more_1.A), (Value.int .i64 more_1.B), (Value.string (bs more_1.S))].toArray 35 (0, 0))] :: [(b11, Obj.cells [c1, c3].toArray 25 (0, 0))] :: [])) (by kernel_rfl) ?_
    intro w hw
    replace ok := okdrew ok hw
    clear hw
    have le_m23 := Mem.le.refl m23
    refine k_next (cl1 ⟨m23, _, le_m23, ok, ⟨memAt 0 rfl, memAt 2 rfl, memAt 3 rfl, memAt 4 rfl, memAt 5 rfl, memAt 6 rfl, memAt 7 rfl, memAt 8 rfl, trivial⟩⟩ ⟨m23, _, le_m23, ok, ⟨memAt 2 rfl, memAt 3 rfl, memAt 4 rfl, memAt 5 rfl, memAt 6 rfl, memAt 7 rfl, memAt 8 rfl, trivial⟩⟩) fun hT => ?_
    refine k_take 0 E rfl (by kernel_rfl) nP hT (y_fieldAddr fo_31_1 rfl) rfl rfl fun a E => ?_
    refine k_takeN 1 E rfl (by kernel_rfl) nP hT (y_load one_29 rfl (Holds.cown 0 rfl rfl)) rfl rfl fun a E => ?_
    refine k_take 2 E rfl (by kernel_rfl) nP hT (y_move rfl) rfl rfl fun a E => ?_
    refine k_take 3 E rfl (by kernel_rfl) nP hT (y_arAt art_37 rfl rfl (by decide) (by decide)) rfl rfl fun a E => ?_
    refine k_takeN 4 E rfl (by kernel_rfl) nP hT (y_load one_36 rfl (Holds.cown 5 rfl rfl)) rfl rfl fun a E => ?_
    refine k_take 5 E rfl (by kernel_rfl) nP hT (y_conv Tryd.underlying36 Tryd.underlying3 rfl) rfl rfl fun a E => ?_
    refine k_take 6 E rfl (by kernel_rfl) nP hT (y_move rfl) rfl rfl fun a E => ?_
    refine k_take 7 E rfl (by kernel_rfl) nP hT (y_addw rfl rfl) rfl rfl fun a E => ?_
    refine k_take 8 E rfl (by kernel_rfl) nP hT (y_rm rfl rfl e312) rfl rfl fun a E => ?_
    obtain ⟨b327, o328, hp329, yy330⟩ := orowAt sl_29 h303 e314 (P := Tryd.prog) (X := .tmp 115) (I := .tmp 116) (kd := .i64) (ev_of E rfl) (ev_of E rfl)
    refine k_take 9 E rfl (by kernel_rfl) nP hT (yy330 _ _) rfl rfl fun a E => ?_
    refine k_take 10 E rfl (by kernel_rfl) nP hT (y_fieldAddr fo_41_1 rfl) rfl rfl fun a E => ?_
    refine k_all [11] (by kernel_rfl) rfl (one_c ?_)
    · refine wpOp_of_list (o := _) rfl ?_
      refine l_storeRowF (R := pIns) (f := 1) E ok 1 rfl h303 e314 hp329 rfl rfl rfl inf_3 rfl rfl rfl ⟨rfl, trivial⟩ (fun es _ h => by obtain ⟨rfl, r331, r332, r333, l334⟩ := h; exact ⟨rfl, r331, (rm_InR e312 (InR.wrap _ _)), r333, l334⟩) e324 rfl fun M335 w ok h336 => ?_
      refine wpList_nil ?_
      refine t_norm ?_
      refine k_next (cl2 (by kernel_rfl) ⟨m23, _, le_m23, ok, ⟨memAt 2 rfl, memAt 3 rfl, memAt 4 rfl, memAt 5 rfl, memAt 6 rfl, memAt 7 rfl, memAt 8 rfl, trivial⟩⟩) fun hT => ?_
      refine k_done (by kernel_rfl) ?_
      exact ⟨rfl, ⟨c299, c301, M335, ok, E.keep [16, 17], h300, h336⟩⟩
  clear hJ
  intro e a w hO
  obtain ⟨rfl, c337, c339, M340, ok, E, h338, h341⟩ := hO
  refine t_norm ?_
  refine wp_seq ?_
  refine c_region ?_
  refine l_val E ok (y_loadAgg (cs := [c337, c339]) agg_31 rfl rfl (Holds.own 0 rfl rfl)) rfl rfl fun a E => ?_
  obtain ⟨r347, e348, hF⟩ := bnd hF
  obtain ⟨m342, hle344, ok343, hfz345⟩ := (ok.frs 1 rfl).freeze
  have h346 := ORow.froz mIns h341 hle344 hfz345 (by decide)
  have h338' := (mL mS).up hle344 h338
  refine l_call E go_13 rfl (verify_Check_w N _ o305 ⟨_, _, rfl, h338', h346⟩ e348 hG ok343) rfl rfl ?_
  rintro _ w ⟨⟨rfl, okz⟩, r349, r350⟩
  replace ok := (Ok.thawAt 1 rfl ok hle344 hfz345 okz)
  refine ⟨_, rfl, fun a E => ?_⟩
  refine l_val E ok (y_move rfl) rfl rfl fun a E => ?_
  refine l_val E ok (y_extract rfl rfl) rfl rfl fun a E => ?_
  refine l_val E ok (y_extract rfl rfl) rfl rfl fun a E => ?_
  refine l_val E ok (y_assign rfl) rfl rfl fun a E => ?_
  refine l_val E ok (y_assign rfl) rfl rfl fun a E => ?_
  refine wpList_nil ?_
  refine t_norm ?_
  refine wp_seq ?_
  refine c_region ?_
  refine l_val E ok (y_move rfl) rfl rfl fun a E => ?_
  refine l_val E ok (y_eql rfl rfl) rfl rfl fun a E => ?_
  refine l_val E ok (y_move rfl) rfl rfl fun a E => ?_
  refine bsplit (r347.2 == 4) (fun hc351 => ?_) (fun hc351 => ?_)
  · replace hF := cond_t hc351 hF
    replace E := E.upd 132 hc351 rfl
    refine l_val E ok (y_move rfl) rfl rfl fun a E => ?_
    refine l_val E ok (y_move rfl) rfl rfl fun a E => ?_
    refine l_val E ok (y_leq rfl rfl) rfl rfl fun a E => ?_
    refine l_val E ok (y_pickT rfl rfl) rfl rfl fun a E => ?_
    refine l_val E ok (y_assign rfl) rfl rfl fun a E => ?_
    refine wpList_nil ?_
    refine t_norm ?_
    refine wp_ret ?_
    have hret : calquelaw34_VerifyDamage_R u m0 S (decide (r347.1 ≤ q235)) a w := ⟨(ok.drop.drop.drop.drop.drop.drop.drop.drop.drop).down hb0 le_m0, E.d, ⟨rv_t E rfl, trivial⟩⟩
    obtain rfl := Option.some.inj hF
    exact fin _ _ hret
  replace hF := cond_f hc351 hF
  replace E := E.upd 132 hc351 rfl
  refine l_skip E rfl rfl fun a E => ?_
  refine l_skip E rfl rfl fun a E => ?_
  refine l_skip E rfl rfl fun a E => ?_
  refine l_val E ok (y_pickF rfl rfl) rfl rfl fun a E => ?_
  refine l_val E ok (y_assign rfl) rfl rfl fun a E => ?_
  refine wpList_nil ?_
  refine t_norm ?_
  refine wp_ret ?_
  have hret : calquelaw34_VerifyDamage_R u m0 S false a w := ⟨(ok.drop.drop.drop.drop.drop.drop.drop.drop.drop).down hb0 le_m0, E.d, ⟨rv_t E rfl, trivial⟩⟩
  obtain rfl := Option.some.inj hF
  exact fin _ _ hret

end Go.Proofs.YtmghnmfefpeelaaDoor
