/- The walks of this part: the model's run of each function yields what the plain function says. Printed by gen8.py. -/
import Derived.Test.YtmghnmfefpeelaaDoorExt34c
import Derived.Test.YtmghnmfefpeelaaDoorWalk34a1
import Derived.Test.YtmghnmfefpeelaaDoorWalk34a2
import Derived.Test.YtmghnmfefpeelaaDoorWalk34m
import Derived.Test.YtmghnmfefpeelaaDoorWalk34p1
import Derived.Test.YtmghnmfefpeelaaDoorWalk34p2
import Derived.Test.YtmghnmfefpeelaaDoorWalk34p3
import Derived.Test.YtmghnmfefpeelaaDoorChecked
import Derived.Test.YtmghnmfefpeelaaDoorShelf
set_option linter.unusedVariables false
namespace Go.Proofs.YtmghnmfefpeelaaDoor
open Go.X

def pWay : Rp Way := fun m cs x => ∃ c1, cs = [.bool x.reached, c1] ∧ (pL 1 pS) m [c1] x.open_
theorem mWay : Mono pWay := ⟨fun hm h => by
  obtain ⟨c1, e, h1⟩ := h
  exact ⟨c1, e, (mL mS).up hm h1⟩, fun h => by
  obtain ⟨c1, rfl, h1⟩ := h
  exact ⟨rfl, ((mL mS).one h1).1, trivial⟩⟩

theorem fo_68_0 : fieldOffB Tryd.prog 68 0 0 = true := by kernel_rfl
theorem fo_68_1 : fieldOffB Tryd.prog 68 1 1 = true := by kernel_rfl
theorem go_14 : goB Tryd.prog 14 = true := by kernel_rfl
theorem go_15 : goB Tryd.prog 15 = true := by kernel_rfl
theorem go_16 : goB Tryd.prog 16 = true := by kernel_rfl
theorem go_17 : goB Tryd.prog 17 = true := by kernel_rfl
theorem go_29 : goB Tryd.prog 29 = true := by kernel_rfl
theorem go_39 : goB Tryd.prog 39 = true := by kernel_rfl
theorem go_40 : goB Tryd.prog 40 = true := by kernel_rfl
set_option maxRecDepth 100000 in
theorem inf_68 : ∃ i, Tryd.prog.info? 68 = some i ∧ i.size = 2 := ⟨_, rfl, by kernel_rfl⟩
theorem places_68 : placesB Tryd.prog 68 = some [(0, 1), (1, 1)] := by kernel_rfl
theorem sl_61 : SlT Tryd.prog 61 68 2 := SlT.of (by kernel_rfl)
theorem sl_74 : SlT Tryd.prog 74 3 1 := SlT.of (by kernel_rfl)
theorem zero_3 : zeroB Tryd.prog 3 = some [(Value.int .i64 0)] := by kernel_rfl
theorem zero_68 : zeroB Tryd.prog 68 = some [(Value.bool false), (Value.slice none 0 0)] := by kernel_rfl

def calqueref34_Next_R (u : World) (m0 : Mem) (S : Segs) (r : (List (Int))) (a : Act) (w : World) : Prop :=
  ∃ m1 v0, m0.le m1 ∧ Ok u m1 S w ∧ a.defers = [] ∧ RVs Tryd.prog a w [.t 4 v0] ∧ (pL 1 (pI .i64)) m1 [v0] r
set_option maxHeartbeats 4000000 in
set_option maxRecDepth 100000 in
theorem calqueref34_Next_w {u : World} {m0 : Mem} {S : Segs} {w : World} (N : Nat) (vc_0 : List Value) (c_0 : Code) (hc_0 : pCode m0 vc_0 c_0) (i_1 : Int) (ri_1 : InR .i64 i_1) {r : (List (Int))} (hF : calqueref34_Next N c_0 i_1 = some r) (hG : Glob u) (ok : Ok u m0 S w) :
    Calls Tryd.prog 39 [.agg vc_0.toArray, Value.int .i64 i_1].toArray w fun e w' => ∃ m1 v0, e = .returned v0 ∧ m0.le m1 ∧ Ok u m1 S w' ∧ (pL 1 (pI .i64)) m1 [v0] r := by
  obtain ⟨c1, c3, rfl, h2, h4⟩ := hc_0
  have le_m0 := Mem.le.refl m0
  unfold calqueref34_Next at hF
  have fin : ∀ a w, calqueref34_Next_R u m0 S r a w → bodyPost Tryd.prog Tryd.f39 (fun e w' => ∃ m1 v0, e = .returned v0 ∧ m0.le m1 ∧ Ok u m1 S w' ∧ (pL 1 (pI .i64)) m1 [v0] r) .ret a w := by
    intro a w h
    obtain ⟨m1, v0, hle, ok, hd, hrv, h0⟩ := h
    exact c_ret2 [.t 4 v0] hd rfl hrv ⟨m1, v0, rfl, hle, ok, h0⟩
  refine enter Tryd.func39 rfl rfl rfl fun a E => ?_
  refine wp_seq ?_
  refine c_region ?_
  refine l_box E ok rfl rfl rfl fun b5 a w E ok => ?_
  refine l_val E ok (y_assign rfl) rfl rfl fun a E => ?_
  refine wpList_nil ?_
  refine t_norm ?_
  refine wp_seq ?_
  refine wp_seq ?_
  refine c_region ?_
  refine l_val E ok (y_fieldAddr fo_25_1 rfl) rfl rfl fun a E => ?_
  refine l_val E ok (y_load one_23 rfl (Holds.own 0 rfl rfl)) rfl rfl fun a E => ?_
  refine l_val E ok (y_move rfl) rfl rfl fun a E => ?_
  obtain ⟨x6, e7, hF⟩ := bnd hF
  obtain ⟨b8, o9, es10, hl11, rr12, at13, yy14⟩ := idxAt sl_23 h4 e7 (P := Tryd.prog) (X := .tmp 8) (I := .tmp 9) (kd := .i64) (ev_of E rfl) (ev_of E rfl)
  obtain ⟨rfl, r15, r16, r17, l18⟩ := rr12
  refine l_val E ok (yy14 _ _) rfl rfl fun a E => ?_
  refine l_val E ok (y_fieldAddr fo_35_0 rfl) rfl rfl fun a E => ?_
  refine l_val E ok (y_load one_3 rfl (Holds.ro (At.sub 0 1 at13))) rfl rfl fun a E => ?_
  refine wpList_nil ?_
  refine t_norm ?_
  refine wp_block ?_
  refine wp_seq ?_
  refine c_region ?_
  refine l_val E ok (y_eql rfl rfl) rfl rfl fun a E => ?_
  refine l_val E ok (y_assign rfl) rfl rfl fun a E => ?_
  refine wpList_nil ?_
  refine t_norm ?_
  refine c_if E rfl (fun hc19 => ?_) (fun hc19 => ?_)
  rotate_left
  · replace hF := cond_f hc19 hF
    refine wp_seq ?_
    refine c_region ?_
    refine l_val E ok (y_eql rfl rfl) rfl rfl fun a E => ?_
    refine l_val E ok (y_assign rfl) rfl rfl fun a E => ?_
    refine wpList_nil ?_
    refine t_norm ?_
    refine c_if E rfl (fun hc82 => ?_) (fun hc82 => ?_)
    · replace hF := cond_t hc82 hF
      refine wp_seq ?_
      refine c_region ?_
      refine l_val E ok (y_fieldAddr fo_25_1 rfl) rfl rfl fun a E => ?_
      refine l_val E ok (y_load one_23 rfl (Holds.own 0 rfl rfl)) rfl rfl fun a E => ?_
      refine l_val E ok (y_move rfl) rfl rfl fun a E => ?_
      obtain ⟨x83, e84, hF⟩ := bnd hF
      obtain ⟨b85, o86, es87, hl88, rr89, at90, yy91⟩ := idxAt sl_23 h4 e84 (P := Tryd.prog) (X := .tmp 46) (I := .tmp 47) (kd := .i64) (ev_of E rfl) (ev_of E rfl)
      obtain ⟨rfl, r92, r93, r94, l95⟩ := rr89
      refine l_val E ok (yy91 _ _) rfl rfl fun a E => ?_
      refine l_val E ok (y_fieldAddr fo_35_1 rfl) rfl rfl fun a E => ?_
      refine l_val E ok (y_load one_3 rfl (Holds.ro (At.sub 1 1 at90))) rfl rfl fun a E => ?_
      refine l_slit (R := (pI .i64)) (xo := [.tmp 50]) (xs := ([x83.A] : List (Int))) E ok sl_74 zero_3 rfl ⟨⟨_, rfl, rfl, (pI_mk r93)⟩, trivial⟩ rfl rfl rfl rfl fun c96 M97 a w E ok h98 => ?_
      refine l_val E ok (y_assign rfl) rfl rfl fun a E => ?_
      refine wpList_nil ?_
      refine t_norm ?_
      refine wp_ret ?_
      refine b_ret ?_
      refine t_ret ?_
      obtain ⟨m99, hle, ok, hfz⟩ := (ok.frs 0 rfl).freeze
      have h100 := ORow.froz (mI .i64) h98 hle hfz (by decide)
      have le_m0 := le_m0.trans hle
      have h2 := (mL mS).up hle h2
      have h4 := (mL mIns).up hle h4
      have at13 := At.up hle at13
      have at90 := At.up hle at90
      have hret : calqueref34_Next_R u m0 S ([x83.A] : List (Int)) a w := ⟨m99, c96, le_m0, ok.drop, E.d, ⟨rv_t E rfl, trivial⟩, h100⟩
      obtain rfl := Option.some.inj hF
      exact fin _ _ hret
    replace hF := cond_f hc82 hF
    refine wp_seq ?_
    refine c_region ?_
    refine l_val E ok (y_eql rfl rfl) rfl rfl fun a E => ?_
    refine l_val E ok (y_assign rfl) rfl rfl fun a E => ?_
    refine wpList_nil ?_
    refine t_norm ?_
    refine c_if E rfl (fun hc101 => ?_) (fun hc101 => ?_)
    · replace hF := cond_t hc101 hF
      refine wp_seq ?_
      refine c_region ?_
      refine l_val E ok (y_assign rfl) rfl rfl fun a E => ?_
      refine wpList_nil ?_
      refine t_norm ?_
      refine wp_ret ?_
      refine b_ret ?_
      refine t_ret ?_
      have hret : calqueref34_Next_R u m0 S ([]) a w := ⟨m0, (.slice none 0 0), le_m0, ok.drop, E.d, ⟨rv_t E rfl, trivial⟩, pL_nil⟩
      obtain rfl := Option.some.inj hF
      exact fin _ _ hret
    replace hF := cond_f hc101 hF
    refine wp_skip ?_
    refine b_norm ?_
    refine t_norm ?_
    refine wp_seq ?_
    refine c_region ?_
    refine l_val E ok (y_move rfl) rfl rfl fun a E => ?_
    refine l_val E ok (y_addw rfl rfl) rfl rfl fun a E => ?_
    refine l_slit (R := (pI .i64)) (xo := [.tmp 55]) (xs := ([(IntKind.wrap .i64 (i_1 + 1))] : List (Int))) E ok sl_74 zero_3 rfl ⟨⟨_, rfl, rfl, (pI_mk (InR.wrap _ _))⟩, trivial⟩ rfl rfl rfl rfl fun c102 M103 a w E ok h104 => ?_
    refine l_val E ok (y_assign rfl) rfl rfl fun a E => ?_
    refine wpList_nil ?_
    refine t_norm ?_
    refine wp_ret ?_
    obtain ⟨m105, hle, ok, hfz⟩ := (ok.frs 0 rfl).freeze
    have h106 := ORow.froz (mI .i64) h104 hle hfz (by decide)
    have le_m0 := le_m0.trans hle
    have h2 := (mL mS).up hle h2
    have h4 := (mL mIns).up hle h4
    have at13 := At.up hle at13
    have hret : calqueref34_Next_R u m0 S ([(IntKind.wrap .i64 (i_1 + 1))] : List (Int)) a w := ⟨m105, c102, le_m0, ok.drop, E.d, ⟨rv_t E rfl, trivial⟩, h106⟩
    obtain rfl := Option.some.inj hF
    exact fin _ _ hret
  replace hF := cond_t hc19 hF
  refine wp_seq ?_
  refine c_region ?_
  refine l_val E ok (y_assign rfl) rfl rfl fun a E => ?_
  refine wpList_nil ?_
  refine t_norm ?_
  refine wp_seq ?_
  refine wp_seq ?_
  refine c_region ?_
  refine l_val E ok (y_move rfl) rfl rfl fun a E => ?_
  refine l_val E ok (y_addw rfl rfl) rfl rfl fun a E => ?_
  refine l_val E ok (y_assign rfl) rfl rfl fun a E => ?_
  refine wpList_nil ?_
  refine t_norm ?_
  refine wp_block ?_
  obtain ⟨M25, ok, h26⟩ := nilrow (e := 3) (k := 1) (R := (pI .i64)) ok
  obtain ⟨o27, hL, hF⟩ := bnd hF
  refine c_loop _ (fun (s : (List (Int)) × Int) a w => ∃ c28 M29, Ok u m0 (M29 :: [(b5, Obj.cells [c1, c3].toArray 25 (0, 0))] :: S) w ∧ Env 57 a [(2, (Value.pointer (some ⟨b5, 0, none⟩))), (5, c28), (6, (Value.int .i64 s.2))] ∧ ORow 3 1 (pI .i64) m0 c28 s.1 M29 ∧ InR .i64 s.2) (fun (b : ((List (Int)))) e a w => e = (.exit 1) ∧ ∃ c79 M80, Ok u m0 (M80 :: [(b5, Obj.cells [c1, c3].toArray 25 (0, 0))] :: S) w ∧ Env 57 a [(5, c79)] ∧ ORow 3 1 (pI .i64) m0 c79 b M80) ?_ ?_ N _ a w hL ⟨(Value.slice none 0 0), M25, ok, E.keep [2, 5, 6], h26, (InR.wrap _ _)⟩
  rotate_left
  · intro e a w _ hO
    obtain ⟨rfl, c74, M75, ok, E, h76⟩ := hO
    refine b_hit ?_
    refine t_norm ?_
    refine wp_seq ?_
    refine c_region ?_
    refine l_val E ok (y_move rfl) rfl rfl fun a E => ?_
    refine l_val E ok (y_assign rfl) rfl rfl fun a E => ?_
    refine wpList_nil ?_
    refine t_norm ?_
    refine wp_ret ?_
    refine b_ret ?_
    refine t_ret ?_
    obtain ⟨m77, hle, ok, hfz⟩ := (ok.frs 0 rfl).freeze
    have h78 := ORow.froz (mI .i64) h76 hle hfz (by decide)
    have le_m0 := le_m0.trans hle
    have h2 := (mL mS).up hle h2
    have h4 := (mL mIns).up hle h4
    have at13 := At.up hle at13
    have hret : calqueref34_Next_R u m0 S o27 a w := ⟨m77, c74, le_m0, ok.drop, E.d, ⟨rv_t E rfl, trivial⟩, h78⟩
    obtain rfl := Option.some.inj hF
    exact fin _ _ hret
  rintro ⟨out_32, k_33⟩ a w r ⟨c34, M35, ok, E, h36, r37⟩ hF
  replace hF : calqueref34_Next_b1 N c_0 out_32 k_33 = some r := hF
  unfold calqueref34_Next_b1 at hF
  refine wp_seq ?_
  refine wp_seq ?_
  refine c_region ?_
  refine l_val E ok (y_move rfl) rfl rfl fun a E => ?_
  refine l_val E ok (y_fieldAddr fo_25_1 rfl) rfl rfl fun a E => ?_
  refine l_val E ok (y_load one_23 rfl (Holds.own 1 rfl rfl)) rfl rfl fun a E => ?_
  refine l_val E ok (y_lenL sl_23 h4 rfl) rfl rfl fun a E => ?_
  refine l_val E ok (y_lss rfl rfl) rfl rfl fun a E => ?_
  refine l_val E ok (y_move rfl) rfl rfl fun a E => ?_
  refine bsplit (decide (k_33 < (c_0.Ins.length : Int))) (fun hc38 => ?_) (fun hc38 => ?_)
  rotate_left
  · replace hF := cond_f hc38 hF
    replace E := E.upd 22 hc38 rfl
    refine l_skip E rfl rfl fun a E => ?_
    refine l_skip E rfl rfl fun a E => ?_
    refine l_skip E rfl rfl fun a E => ?_
    refine l_skip E rfl rfl fun a E => ?_
    refine l_skip E rfl rfl fun a E => ?_
    refine l_skip E rfl rfl fun a E => ?_
    refine l_skip E rfl rfl fun a E => ?_
    refine l_val E ok (y_pickF rfl rfl) rfl rfl fun a E => ?_
    refine wpList_nil ?_
    refine t_norm ?_
    refine c_if E rfl (fun h => by cases h) (fun _ => ?_)
    refine wp_exit ?_
    refine t_exit ?_
    obtain rfl := Option.some.inj hF
    exact step_o (by nofun) (⟨rfl, ⟨c34, M35, ok, E.keep [5], h36⟩⟩)
  replace hF := cond_t hc38 hF
  replace E := E.upd 22 hc38 rfl
  refine l_val E ok (y_fieldAddr fo_25_1 rfl) rfl rfl fun a E => ?_
  refine l_val E ok (y_load one_23 rfl (Holds.own 1 rfl rfl)) rfl rfl fun a E => ?_
  refine l_val E ok (y_move rfl) rfl rfl fun a E => ?_
  obtain ⟨x39, e40, hF⟩ := bnd hF
  obtain ⟨b41, o42, es43, hl44, rr45, at46, yy47⟩ := idxAt sl_23 h4 e40 (P := Tryd.prog) (X := .tmp 24) (I := .tmp 25) (kd := .i64) (ev_of E rfl) (ev_of E rfl)
  obtain ⟨rfl, r48, r49, r50, l51⟩ := rr45
  refine l_val E ok (yy47 _ _) rfl rfl fun a E => ?_
  refine l_val E ok (y_fieldAddr fo_35_0 rfl) rfl rfl fun a E => ?_
  refine l_val E ok (y_load one_3 rfl (Holds.ro (At.sub 0 1 at46))) rfl rfl fun a E => ?_
  refine l_val E ok (y_eql rfl rfl) rfl rfl fun a E => ?_
  refine l_val E ok (y_pickT rfl rfl) rfl rfl fun a E => ?_
  refine wpList_nil ?_
  refine t_norm ?_
  refine c_if E rfl (fun hc52 => ?_) (fun hc52 => ?_)
  rotate_left
  · replace hF := cond_f hc52 hF
    refine wp_exit ?_
    refine t_exit ?_
    obtain rfl := Option.some.inj hF
    exact step_o (by nofun) (⟨rfl, ⟨c34, M35, ok, E.keep [5], h36⟩⟩)
  replace hF := cond_t hc52 hF
  refine wp_skip ?_
  refine t_norm ?_
  refine wp_seq ?_
  refine wp_block ?_
  refine c_region ?_
  refine l_val E ok (y_move rfl) rfl rfl fun a E => ?_
  refine l_val E ok (y_fieldAddr fo_25_1 rfl) rfl rfl fun a E => ?_
  refine l_val E ok (y_load one_23 rfl (Holds.own 1 rfl rfl)) rfl rfl fun a E => ?_
  refine l_val E ok (y_move rfl) rfl rfl fun a E => ?_
  obtain ⟨x53, e54, hF⟩ := bnd hF
  obtain ⟨b55, o56, es57, hl58, rr59, at60, yy61⟩ := idxAt sl_23 h4 e54 (P := Tryd.prog) (X := .tmp 35) (I := .tmp 36) (kd := .i64) (ev_of E rfl) (ev_of E rfl)
  obtain ⟨rfl, r62, r63, r64, l65⟩ := rr59
  refine l_val E ok (yy61 _ _) rfl rfl fun a E => ?_
  refine l_val E ok (y_fieldAddr fo_35_1 rfl) rfl rfl fun a E => ?_
  refine l_val E ok (y_load one_3 rfl (Holds.ro (At.sub 1 1 at60))) rfl rfl fun a E => ?_
  refine l_slit (R := (pI .i64)) (xo := [.tmp 39]) (xs := ([x53.A] : List (Int))) E ok sl_74 zero_3 rfl ⟨⟨_, rfl, rfl, (pI_mk r63)⟩, trivial⟩ rfl rfl rfl rfl fun c66 M67 a w E ok h68 => ?_
  obtain ⟨l69, e70, hF⟩ := bnd hF
  refine l_app (R := (pI .i64)) E ok 1 (mI .i64) sl_74 Tryd.underlying74 rfl h36 (SrcOK.ofRow h68 0 rfl ok) e70 ⟨_, zero_3, rfl⟩ rfl rfl rfl rfl fun c71 M72 a w E ok h73 => ?_
  refine l_val E ok (y_assign rfl) rfl rfl fun a E => ?_
  refine wpList_nil ?_
  refine b_norm ?_
  refine t_norm ?_
  refine c_region ?_
  refine l_val E ok (y_move rfl) rfl rfl fun a E => ?_
  refine l_val E ok (y_add rfl rfl (InR.inc r37 (pL_InR h4) hc38)) rfl rfl fun a E => ?_
  refine l_val E ok (y_assign rfl) rfl rfl fun a E => ?_
  refine wpList_nil ?_
  obtain rfl := Option.some.inj hF
  exact step_n ⟨c71, M72, (ok.pk 3 [1, 2] rfl (by decide)), E.keep [2, 5, 6], h73, (InR.inc r37 (pL_InR h4) hc38)⟩

def calqueref34_same_R (u : World) (m0 : Mem) (S : Segs) (r : Bool) (a : Act) (w : World) : Prop :=
  Ok u m0 S w ∧ a.defers = [] ∧ RVs Tryd.prog a w [.t 4 (.bool r)]
set_option maxHeartbeats 4000000 in
set_option maxRecDepth 100000 in
theorem calqueref34_same_w {u : World} {m0 : Mem} {S : Segs} {w : World} (N : Nat) (va_0 : Value) (a_0 : List (List UInt8)) (ha_0 : (pL 1 pS) m0 [va_0] a_0) (vb_1 : Value) (b_1 : List (List UInt8)) (hb_1 : (pL 1 pS) m0 [vb_1] b_1) {r : Bool} (hF : calqueref34_same N a_0 b_1 = some r) (hG : Glob u) (ok : Ok u m0 S w) :
    Calls Tryd.prog 40 [va_0, vb_1].toArray w fun e w' => (e = .returned (.bool r) ∧ Ok u m0 S w') := by
  have hb0 := ok.base
  have le_m0 := Mem.le.refl m0
  unfold calqueref34_same at hF
  have fin : ∀ a w, calqueref34_same_R u m0 S r a w → bodyPost Tryd.prog Tryd.f40 (fun e w' => (e = .returned (.bool r) ∧ Ok u m0 S w')) .ret a w := by
    intro a w h
    obtain ⟨ok, hd, hrv⟩ := h
    exact c_ret2 [.t 4 (.bool r)] hd rfl hrv ⟨rfl, ok⟩
  refine enter Tryd.func40 rfl rfl rfl fun a E => ?_
  refine wp_seq ?_
  refine c_region ?_
  refine l_val E ok (y_assign rfl) rfl rfl fun a E => ?_
  refine wpList_nil ?_
  refine t_norm ?_
  refine wp_seq ?_
  refine wp_seq ?_
  refine c_region ?_
  refine l_val E ok (y_move rfl) rfl rfl fun a E => ?_
  refine l_val E ok (y_lenL sl_22 ha_0 rfl) rfl rfl fun a E => ?_
  refine l_val E ok (y_move rfl) rfl rfl fun a E => ?_
  refine l_val E ok (y_lenL sl_22 hb_1 rfl) rfl rfl fun a E => ?_
  refine l_val E ok (y_neq rfl rfl) rfl rfl fun a E => ?_
  refine wpList_nil ?_
  refine t_norm ?_
  refine c_if E rfl (fun hc1 => ?_) (fun hc1 => ?_)
  · replace hF := cond_t hc1 hF
    refine wp_seq ?_
    refine c_region ?_
    refine l_val E ok (y_assign rfl) rfl rfl fun a E => ?_
    refine wpList_nil ?_
    refine t_norm ?_
    refine wp_ret ?_
    refine t_ret ?_
    have hret : calqueref34_same_R u m0 S false a w := ⟨ok, E.d, ⟨rv_t E rfl, trivial⟩⟩
    obtain rfl := Option.some.inj hF
    exact fin _ _ hret
  replace hF := cond_f hc1 hF
  refine wp_skip ?_
  refine t_norm ?_
  refine wp_seq ?_
  refine wp_seq ?_
  refine c_region ?_
  refine l_val E ok (y_assign rfl) rfl rfl fun a E => ?_
  refine wpList_nil ?_
  refine t_norm ?_
  refine wp_block ?_
  obtain ⟨o3, hL, hF⟩ := bnd hF
  refine c_loop _ (fun (s : Int) a w => Ok u m0 (S) w ∧ Env 26 a [(0, va_0), (1, vb_1), (5, (Value.int .i64 s))] ∧ InR .i64 s) (fun (b : (Unit ⊕ Bool)) e a w => (Sum.elim (fun b29 => e = (.exit 0) ∧ Ok u m0 (S) w ∧ Env 26 a []) (fun b30 => e = .ret ∧ calqueref34_same_R u m0 S b30 a w)) b) ?_ ?_ N _ a w hL ⟨ok, E.keep [0, 1, 5], (show InR .i64 (0) by decide)⟩
  rotate_left
  · intro e a w _ hO
    rcases o3 with o3 | o3
    rotate_left
    · replace hF := elim_r hF
      obtain ⟨rfl, hret⟩ := hO
      refine b_ret ?_
      refine t_ret ?_
      obtain rfl := Option.some.inj hF
      exact fin _ _ hret
    replace hF := elim_l hF
    obtain ⟨rfl, ok, E⟩ := hO
    refine b_hit ?_
    refine t_norm ?_
    refine wp_seq ?_
    refine c_region ?_
    refine l_val E ok (y_assign rfl) rfl rfl fun a E => ?_
    refine wpList_nil ?_
    refine t_norm ?_
    refine wp_ret ?_
    have hret : calqueref34_same_R u m0 S true a w := ⟨ok, E.d, ⟨rv_t E rfl, trivial⟩⟩
    obtain rfl := Option.some.inj hF
    exact fin _ _ hret
  rintro i_5 a w r ⟨ok, E, r6⟩ hF
  replace hF : calqueref34_same_b1 N a_0 b_1 i_5 = some r := hF
  unfold calqueref34_same_b1 at hF
  refine wp_seq ?_
  refine wp_seq ?_
  refine c_region ?_
  refine l_val E ok (y_move rfl) rfl rfl fun a E => ?_
  refine l_val E ok (y_move rfl) rfl rfl fun a E => ?_
  refine l_val E ok (y_lenL sl_22 ha_0 rfl) rfl rfl fun a E => ?_
  refine l_val E ok (y_lss rfl rfl) rfl rfl fun a E => ?_
  refine wpList_nil ?_
  refine t_norm ?_
  refine c_if E rfl (fun hc7 => ?_) (fun hc7 => ?_)
  rotate_left
  · replace hF := cond_f hc7 hF
    refine wp_exit ?_
    refine t_exit ?_
    obtain rfl := Option.some.inj hF
    exact step_o (by nofun) (sl ⟨rfl, ⟨ok, E.keep []⟩⟩)
  replace hF := cond_t hc7 hF
  refine wp_skip ?_
  refine t_norm ?_
  refine wp_seq ?_
  refine wp_block ?_
  refine wp_seq ?_
  refine c_draw (by kernel_rfl) (by kernel_rfl) ok ?_
  refine q_val E (y_move rfl) rfl rfl fun a E => ?_
  refine q_val E (y_move rfl) rfl rfl fun a E => ?_
  obtain ⟨x8, e9, hF⟩ := bnd hF
  obtain ⟨b10, o11, es12, hl13, rr14, at15, yy16⟩ := idxAt sl_22 ha_0 e9 (P := Tryd.prog) (X := .tmp 17) (I := .tmp 18) (kd := .i64) (ev_of E rfl) (ev_of E rfl)
  obtain ⟨rfl, l17⟩ := rr14
  refine q_val E (yy16 _ _) rfl rfl fun a E => ?_
  refine q_val E (y_load one_9 rfl (Holds.ro at15)) rfl rfl fun a E => ?_
  refine q_val E (y_move rfl) rfl rfl fun a E => ?_
  refine q_val E (y_move rfl) rfl rfl fun a E => ?_
  obtain ⟨x18, e19, hF⟩ := bnd hF
  obtain ⟨b20, o21, es22, hl23, rr24, at25, yy26⟩ := idxAt sl_22 hb_1 e19 (P := Tryd.prog) (X := .tmp 21) (I := .tmp 22) (kd := .i64) (ev_of E rfl) (ev_of E rfl)
  obtain ⟨rfl, l27⟩ := rr24
  refine q_val E (yy26 _ _) rfl rfl fun a E => ?_
  refine q_val E (y_load one_9 rfl (Holds.ro at25)) rfl rfl fun a E => ?_
  refine q_val E (y_sneq rfl rfl) rfl rfl fun a E => ?_
  refine wpQuiet_nil ?_
  intro w ok
  refine t_norm ?_
  refine c_if E rfl (fun hc28 => ?_) (fun hc28 => ?_)
  rotate_left
  · replace hF := cond_f hc28 hF
    refine wp_skip ?_
    refine b_norm ?_
    refine t_norm ?_
    refine c_region ?_
    refine l_val E ok (y_move rfl) rfl rfl fun a E => ?_
    refine l_val E ok (y_add rfl rfl (InR.inc r6 (pL_InR ha_0) hc7)) rfl rfl fun a E => ?_
    refine l_val E ok (y_assign rfl) rfl rfl fun a E => ?_
    refine wpList_nil ?_
    obtain rfl := Option.some.inj hF
    exact step_n ⟨ok, E.keep [0, 1, 5], (InR.inc r6 (pL_InR ha_0) hc7)⟩
  replace hF := cond_t hc28 hF
  refine wp_seq ?_
  refine c_region ?_
  refine l_val E ok (y_assign rfl) rfl rfl fun a E => ?_
  refine wpList_nil ?_
  refine t_norm ?_
  refine wp_ret ?_
  refine b_ret ?_
  refine t_ret ?_
  have hret : calqueref34_same_R u m0 S false a w := ⟨ok, E.d, ⟨rv_t E rfl, trivial⟩⟩
  obtain rfl := Option.some.inj hF
  exact step_o (by nofun) (sr ⟨rfl, hret⟩)

def calqueref34_ways_R (u : World) (m0 : Mem) (S : Segs) (r : (List (Way)) × Int) (a : Act) (w : World) : Prop :=
  ∃ m1 v0, m0.le m1 ∧ Ok u m1 S w ∧ a.defers = [] ∧ RVs Tryd.prog a w [.t 2 v0, .t 3 (.int .i64 r.2)] ∧ (pL 2 pWay) m1 [v0] r.1 ∧ InR .i64 r.2
set_option maxHeartbeats 4000000 in
set_option maxRecDepth 100000 in
theorem calqueref34_ways_w {u : World} {m0 : Mem} {S : Segs} {w : World} (N : Nat) (vc_0 : List Value) (c_0 : Code) (hc_0 : pCode m0 vc_0 c_0) {r : (List (Way)) × Int} (hF : calqueref34_ways N c_0 = some r) (hG : Glob u) (ok : Ok u m0 S w) :
    Calls Tryd.prog 29 [.agg vc_0.toArray].toArray w fun e w' => ∃ m1 v0, e = .returned (.tuple [v0, (.int .i64 r.2)].toArray) ∧ m0.le m1 ∧ Ok u m1 S w' ∧ (pL 2 pWay) m1 [v0] r.1 ∧ InR .i64 r.2 := by
  obtain ⟨c1, c3, rfl, h2, h4⟩ := hc_0
  have le_m0 := Mem.le.refl m0
  unfold calqueref34_ways at hF
  have fin : ∀ a w, calqueref34_ways_R u m0 S r a w → bodyPost Tryd.prog Tryd.f29 (fun e w' => ∃ m1 v0, e = .returned (.tuple [v0, (.int .i64 r.2)].toArray) ∧ m0.le m1 ∧ Ok u m1 S w' ∧ (pL 2 pWay) m1 [v0] r.1 ∧ InR .i64 r.2) .ret a w := by
    intro a w h
    obtain ⟨m1, v0, hle, ok, hd, hrv, h0, h1⟩ := h
    exact c_ret2 [.t 2 v0, .t 3 (.int .i64 r.2)] hd rfl hrv ⟨m1, v0, rfl, hle, ok, h0, h1⟩
  refine enter Tryd.func29 rfl rfl rfl fun a E => ?_
  refine wp_seq ?_
  refine c_region ?_
  refine l_box E ok rfl rfl rfl fun b5 a w E ok => ?_
  refine l_val E ok (y_assign rfl) rfl rfl fun a E => ?_
  refine l_val E ok (y_assign rfl) rfl rfl fun a E => ?_
  refine wpList_nil ?_
  refine t_norm ?_
  refine wp_seq ?_
  refine c_region ?_
  refine l_val E ok (y_fieldAddr fo_25_1 rfl) rfl rfl fun a E => ?_
  refine l_val E ok (y_load one_23 rfl (Holds.own 0 rfl rfl)) rfl rfl fun a E => ?_
  refine l_val E ok (y_lenL sl_23 h4 rfl) rfl rfl fun a E => ?_
  obtain ⟨l6, e7, hF⟩ := bnd hF
  refine l_make (R := pWay) E ok sl_61 zero_68 rfl ⟨_, rfl, pL_nil⟩ rfl e7 rfl rfl fun c8 M9 a w E ok h10 => ?_
  refine l_val E ok (y_assign rfl) rfl rfl fun a E => ?_
  refine wpList_nil ?_
  refine t_norm ?_
  refine wp_seq ?_
  refine c_region ?_
  refine l_val E ok (y_fieldAddr fo_25_1 rfl) rfl rfl fun a E => ?_
  refine l_val E ok (y_load one_23 rfl (Holds.own 1 rfl rfl)) rfl rfl fun a E => ?_
  refine l_val E ok (y_lenL sl_23 h4 rfl) rfl rfl fun a E => ?_
  obtain ⟨l11, e12, hF⟩ := bnd hF
  refine l_make (R := pB) E ok sl_46 zero_4 rfl pB_mk rfl e12 rfl rfl fun c13 M14 a w E ok h15 => ?_
  refine l_val E ok (y_assign rfl) rfl rfl fun a E => ?_
  refine wpList_nil ?_
  refine t_norm ?_
  refine wp_seq ?_
  refine c_region ?_
  refine l_val E ok (y_move rfl) rfl rfl fun a E => ?_
  obtain ⟨x16, e17, hF⟩ := bnd hF
  obtain ⟨b18, o19, hp20, yy21⟩ := orowAt sl_61 h10 e17 (P := Tryd.prog) (X := .tmp 20) (I := .const (Value.int .i64 0)) (kd := .i64) (ev_of E rfl) (ev_of E rfl)
  refine l_val E ok (yy21 _ _) rfl rfl fun a E => ?_
  refine l_val E ok (y_fieldAddr fo_68_0 rfl) rfl rfl fun a E => ?_
  obtain ⟨l24, e25, hF⟩ := bnd hF
  refine l_storeRowF (R := pWay) (f := 0) E ok 1 rfl h10 e17 hp20 rfl rfl rfl inf_4 rfl rfl rfl ⟨rfl, trivial⟩ (fun es _ h => by obtain ⟨c22, rfl, h23⟩ := h; exact ⟨_, rfl, h23⟩) e25 rfl fun M26 w ok h27 => ?_
  refine wpList_nil ?_
  refine t_norm ?_
  refine wp_seq ?_
  refine wp_seq ?_
  refine c_region ?_
  refine l_val E ok (y_assign rfl) rfl rfl fun a E => ?_
  refine wpList_nil ?_
  refine t_norm ?_
  refine wp_block ?_
  obtain ⟨o36, hL, hF⟩ := bnd hF
  refine c_loop _ (fun (s : Int × (List (Way)) × (List (Bool))) a w => ∃ m37 c39 M40 c42 M43, m0.le m37 ∧ Ok u m37 (M43 :: M40 :: [(b5, Obj.cells [c1, c3].toArray 25 (0, 0))] :: S) w ∧ Env 145 a [(1, (Value.pointer (some ⟨b5, 0, none⟩))), (4, c39), (5, c42), (6, (Value.int .i64 s.1))] ∧ InR .i64 s.1 ∧ ORow 68 2 pWay m37 c39 s.2.1 M40 ∧ ORow 4 1 pB m37 c42 s.2.2 M43) (fun (b : (((List (Way))) ⊕ ((List (Way)) × Int))) e a w => (Sum.elim (fun b377 => e = (.exit 0) ∧ ∃ m378 c379 M380, m0.le m378 ∧ Ok u m378 (M380 :: [(b5, Obj.cells [c1, c3].toArray 25 (0, 0))] :: S) w ∧ Env 145 a [(4, c379)] ∧ ORow 68 2 pWay m378 c379 b377 M380) (fun b382 => e = .ret ∧ calqueref34_ways_R u m0 S b382 a w)) b) ?_ ?_ N _ a w hL ⟨m0, c8, M26, c13, M14, Mem.le.refl _, ok, E.keep [1, 4, 5, 6], (show InR .i64 (0) by decide), h27, h15⟩
  rotate_left
  · intro e a w _ hO
    rcases o36 with o36 | o36
    rotate_left
    · replace hF := elim_r hF
      obtain ⟨rfl, hret⟩ := hO
      refine b_ret ?_
      refine t_ret ?_
      obtain rfl := Option.some.inj hF
      exact fin _ _ hret
    replace hF := elim_l hF
    obtain ⟨rfl, m371, c372, M373, hle, ok, E, h374⟩ := hO
    have le_m0 := le_m0.trans hle
    have h2 := (mL mS).up hle h2
    have h4 := (mL mIns).up hle h4
    refine b_hit ?_
    refine t_norm ?_
    refine wp_seq ?_
    refine c_region ?_
    refine l_val E ok (y_move rfl) rfl rfl fun a E => ?_
    refine l_val E ok (y_assign rfl) rfl rfl fun a E => ?_
    refine l_val E ok (y_assign rfl) rfl rfl fun a E => ?_
    refine wpList_nil ?_
    refine t_norm ?_
    refine wp_ret ?_
    obtain ⟨m375, hle, ok, hfz⟩ := (ok.frs 0 rfl).freeze
    have h376 := ORow.froz mWay h374 hle hfz (by decide)
    have le_m0 := le_m0.trans hle
    have h2 := (mL mS).up hle h2
    have h4 := (mL mIns).up hle h4
    have hret : calqueref34_ways_R u m0 S (o36, (-1)) a w := ⟨m375, c372, le_m0, ok.drop, E.d, ⟨rv_t E rfl, rv_t E rfl, trivial⟩, h376, (show InR .i64 (-1) by decide)⟩
    obtain rfl := Option.some.inj hF
    exact fin _ _ hret
  rintro ⟨i_45, l_46, differs_47⟩ a w r ⟨m48, c50, M51, c53, M54, hle, ok, E, r49, h52, h55⟩ hF
  replace hF : calqueref34_ways_b1 N c_0 i_45 l_46 differs_47 = some r := hF
  unfold calqueref34_ways_b1 at hF
  have le_m0 := le_m0.trans hle
  have h2 := (mL mS).up hle h2
  have h4 := (mL mIns).up hle h4
  refine wp_seq ?_
  refine wp_seq ?_
  refine c_region ?_
  refine l_val E ok (y_move rfl) rfl rfl fun a E => ?_
  refine l_val E ok (y_fieldAddr fo_25_1 rfl) rfl rfl fun a E => ?_
  refine l_val E ok (y_load one_23 rfl (Holds.own 2 rfl rfl)) rfl rfl fun a E => ?_
  refine l_val E ok (y_lenL sl_23 h4 rfl) rfl rfl fun a E => ?_
  refine l_val E ok (y_lss rfl rfl) rfl rfl fun a E => ?_
  refine wpList_nil ?_
  refine t_norm ?_
  refine c_if E rfl (fun hc56 => ?_) (fun hc56 => ?_)
  rotate_left
  · replace hF := cond_f hc56 hF
    refine wp_exit ?_
    refine t_exit ?_
    obtain rfl := Option.some.inj hF
    exact step_o (by nofun) (sl ⟨rfl, ⟨m48, c50, M51, le_m0, (ok.pk 3 [1, 2] rfl (by decide)), E.keep [4], h52⟩⟩)
  replace hF := cond_t hc56 hF
  refine wp_skip ?_
  refine t_norm ?_
  refine wp_seq ?_
  refine wp_block ?_
  refine wp_seq ?_
  refine wp_seq ?_
  refine c_region ?_
  refine l_val E ok (y_move rfl) rfl rfl fun a E => ?_
  refine l_val E ok (y_move rfl) rfl rfl fun a E => ?_
  obtain ⟨x57, e58, hF⟩ := bnd hF
  obtain ⟨b59, o60, hp61, yy62⟩ := orowAt sl_61 h52 e58 (P := Tryd.prog) (X := .tmp 30) (I := .tmp 31) (kd := .i64) (ev_of E rfl) (ev_of E rfl)
  refine l_val E ok (yy62 _ _) rfl rfl fun a E => ?_
  refine l_val E ok (y_fieldAddr fo_68_0 rfl) rfl rfl fun a E => ?_
  obtain ⟨es63, hl64, rr65, hh66⟩ := orowGet h52 e58 hp61 (by decide)
  obtain ⟨c67, rfl, h68⟩ := rr65
  refine l_val E ok (y_load one_4 rfl (Holds.sub 0 1 (hh66 _ _ _ 1 rfl))) rfl rfl fun a E => ?_
  refine l_val E ok (y_not rfl) rfl rfl fun a E => ?_
  refine wpList_nil ?_
  refine t_norm ?_
  refine c_if E rfl (fun hc69 => ?_) (fun hc69 => ?_)
  · replace hF := cond_t hc69 hF
    refine wp_exit ?_
    refine t_exit ?_
    refine b_hit ?_
    refine t_norm ?_
    refine c_region ?_
    refine l_val E ok (y_move rfl) rfl rfl fun a E => ?_
    refine l_val E ok (y_add rfl rfl (InR.inc r49 (pL_InR h4) hc56)) rfl rfl fun a E => ?_
    refine l_val E ok (y_assign rfl) rfl rfl fun a E => ?_
    refine wpList_nil ?_
    obtain rfl := Option.some.inj hF
    exact step_n ⟨m48, c50, M51, c53, M54, le_m0, ok, E.keep [1, 4, 5, 6], (InR.inc r49 (pL_InR h4) hc56), h52, h55⟩
  replace hF := cond_f hc69 hF
  refine wp_skip ?_
  refine t_norm ?_
  refine wp_seq ?_
  refine wp_seq ?_
  refine c_region ?_
  refine l_val E ok (y_move rfl) rfl rfl fun a E => ?_
  refine l_val E ok (y_move rfl) rfl rfl fun a E => ?_
  obtain ⟨x70, e71, hF⟩ := bnd hF
  obtain ⟨b72, o73, hp74, yy75⟩ := orowAt sl_46 h55 e71 (P := Tryd.prog) (X := .tmp 36) (I := .tmp 37) (kd := .i64) (ev_of E rfl) (ev_of E rfl)
  refine l_val E ok (yy75 _ _) rfl rfl fun a E => ?_
  obtain ⟨es76, hl77, rr78, hh79⟩ := orowGet h55 e71 hp74 (by decide)
  obtain rfl := rr78
  refine l_val E ok (y_load one_4 rfl (hh79 _ _ _ 0 rfl)) rfl rfl fun a E => ?_
  refine wpList_nil ?_
  refine t_norm ?_
  refine c_if E rfl (fun hc80 => ?_) (fun hc80 => ?_)
  · replace hF := cond_t hc80 hF
    refine wp_seq ?_
    refine c_region ?_
    refine l_val E ok (y_move rfl) rfl rfl fun a E => ?_
    refine l_val E ok (y_move rfl) rfl rfl fun a E => ?_
    refine l_val E ok (y_assign rfl) rfl rfl fun a E => ?_
    refine l_val E ok (y_assign rfl) rfl rfl fun a E => ?_
    refine wpList_nil ?_
    refine t_norm ?_
    refine wp_ret ?_
    refine t_ret ?_
    refine b_ret ?_
    refine t_ret ?_
    obtain ⟨m81, hle, ok, hfz⟩ := (ok.frs 1 rfl).freeze
    have h82 := ORow.froz mWay h52 hle hfz (by decide)
    have le_m0 := le_m0.trans hle
    have h2 := (mL mS).up hle h2
    have h4 := (mL mIns).up hle h4
    have h55 := ORow.up mB hle h55
    have h68 := (mL mS).up hle h68
    have hret : calqueref34_ways_R u m0 S (l_46, i_45) a w := ⟨m81, c50, le_m0, ok.drop.drop, E.d, ⟨rv_t E rfl, rv_t E rfl, trivial⟩, h82, r49⟩
    obtain rfl := Option.some.inj hF
    exact step_o (by nofun) (sr ⟨rfl, hret⟩)
  replace hF := cond_f hc80 hF
  refine wp_skip ?_
  refine t_norm ?_
  refine wp_seq ?_
  refine c_region ?_
  refine l_val E ok (y_fieldAddr fo_25_1 rfl) rfl rfl fun a E => ?_
  refine l_val E ok (y_load one_23 rfl (Holds.own 2 rfl rfl)) rfl rfl fun a E => ?_
  refine l_val E ok (y_move rfl) rfl rfl fun a E => ?_
  obtain ⟨x83, e84, hF⟩ := bnd hF
  obtain ⟨b85, o86, es87, hl88, rr89, at90, yy91⟩ := idxAt sl_23 h4 e84 (P := Tryd.prog) (X := .tmp 43) (I := .tmp 44) (kd := .i64) (ev_of E rfl) (ev_of E rfl)
  obtain ⟨rfl, r92, r93, r94, l95⟩ := rr89
  refine l_val E ok (yy91 _ _) rfl rfl fun a E => ?_
  refine l_val E ok (y_loadAgg (cs := [(Value.int .i64 x83.Op), (Value.int .i64 x83.A), (Value.int .i64 x83.B), (Value.string (bs x83.S))]) agg_35 rfl rfl (Holds.ro at90)) rfl rfl fun a E => ?_
  refine l_alloc E ok zero_35 rfl rfl fun b96 a w E ok => ?_
  refine l_storeB E ok 0 rfl rfl rfl inf_35 rfl rfl ⟨rfl, rfl, rfl, rfl, trivial⟩ rfl rfl fun w ok => ?_
  refine wpList_nil ?_
  refine t_norm ?_
  refine wp_seq ?_
  refine c_region ?_
  refine l_val E ok (y_move rfl) rfl rfl fun a E => ?_
  refine l_val E ok (y_move rfl) rfl rfl fun a E => ?_
  obtain ⟨x97, e98, hF⟩ := bnd hF
  obtain ⟨b99, o100, hp101, yy102⟩ := orowAt sl_61 h52 e98 (P := Tryd.prog) (X := .tmp 47) (I := .tmp 48) (kd := .i64) (ev_of E rfl) (ev_of E rfl)
  refine l_val E ok (yy102 _ _) rfl rfl fun a E => ?_
  refine l_val E ok (y_fieldAddr fo_68_1 rfl) rfl rfl fun a E => ?_
  obtain ⟨es103, hl104, rr105, hh106⟩ := orowGet h52 e98 hp101 (by decide)
  obtain ⟨c107, rfl, h108⟩ := rr105
  refine l_val E ok (y_load one_22 rfl (Holds.sub 1 1 (hh106 _ _ _ 2 rfl))) rfl rfl fun a E => ?_
  refine l_val E ok (y_assign rfl) rfl rfl fun a E => ?_
  refine wpList_nil ?_
  refine t_norm ?_
  refine wp_seq ?_
  refine wp_block ?_
  refine wp_seq ?_
  refine c_region ?_
  refine l_val E ok (y_fieldAddr fo_35_0 rfl) rfl rfl fun a E => ?_
  refine l_val E ok (y_load one_3 rfl (Holds.own 0 rfl rfl)) rfl rfl fun a E => ?_
  refine l_val E ok (y_eql rfl rfl) rfl rfl fun a E => ?_
  refine l_val E ok (y_assign rfl) rfl rfl fun a E => ?_
  refine wpList_nil ?_
  refine t_norm ?_
  obtain ⟨o109, hJ, hF⟩ := bnd hF
  refine c_mono (Q' := fun e a w => (Sum.elim (fun b110 => e = .normal ∧ ∃ m111 c112, m48.le m111 ∧ Ok u m111 ([(b96, Obj.cells [(Value.int .i64 x83.Op), (Value.int .i64 x83.A), (Value.int .i64 x83.B), (Value.string (bs x83.S))].toArray 35 (0, 0))] :: M54 :: M51 :: [(b5, Obj.cells [c1, c3].toArray 25 (0, 0))] :: S) w ∧ Env 145 a [(1, (Value.pointer (some ⟨b5, 0, none⟩))), (4, c50), (5, c53), (6, (Value.int .i64 i_45)), (8, c112)] ∧ (pL 1 pS) m111 [c112] b110) (fun b114 => e = .ret ∧ calqueref34_ways_R u m0 S b114 a w)) o109) ?_ ?_
  rotate_left
  · as_aux_lemma =>
      clear hJ
      intro e a w hO
      rcases o109 with o109 | o109
      rotate_left
      · replace hF := elim_r hF
        obtain ⟨rfl, hret⟩ := hO
        refine b_ret ?_
        refine t_ret ?_
        refine b_ret ?_
        refine t_ret ?_
        obtain rfl := Option.some.inj hF
        exact step_o (by nofun) (sr ⟨rfl, hret⟩)
      replace hF := elim_l hF
      obtain ⟨rfl, m216, c217, hle, ok, E, h218⟩ := hO
      have le_m0 := le_m0.trans hle
      have h2 := (mL mS).up hle h2
      have h4 := (mL mIns).up hle h4
      have h52 := ORow.up mWay hle h52
      have h55 := ORow.up mB hle h55
      have h68 := (mL mS).up hle h68
      have at90 := At.up hle at90
      have h108 := (mL mS).up hle h108
      refine b_norm ?_
      refine t_norm ?_
      refine wp_seq ?_
      refine c_region ?_
      refine l_val E ok (y_loadAgg (cs := [c1, c3]) agg_25 rfl rfl (Holds.own 3 rfl rfl)) rfl rfl fun a E => ?_
      refine l_val E ok (y_move rfl) rfl rfl fun a E => ?_
      obtain ⟨r219, e220, hF⟩ := bnd hF
      refine l_call E go_39 rfl (calqueref34_Next_w N _ c_0 ⟨_, _, rfl, h2, h4⟩ i_45 r49 e220 hG ok) rfl rfl ?_
      rintro _ w ⟨m221, c222, rfl, hle, ok, h223⟩
      have le_m0 := le_m0.trans hle
      have h2 := (mL mS).up hle h2
      have h4 := (mL mIns).up hle h4
      have h52 := ORow.up mWay hle h52
      have h55 := ORow.up mB hle h55
      have h68 := (mL mS).up hle h68
      have at90 := At.up hle at90
      have h108 := (mL mS).up hle h108
      have h218 := (mL mS).up hle h218
      refine ⟨_, rfl, fun a E => ?_⟩
      refine l_val E ok (y_assign rfl) rfl rfl fun a E => ?_
      refine wpList_nil ?_
      refine t_norm ?_
      refine wp_seq ?_
      refine c_region ?_
      refine l_val E ok (y_assign rfl) rfl rfl fun a E => ?_
      refine wpList_nil ?_
      refine t_norm ?_
      refine wp_block ?_
      obtain ⟨o232, hL, hF⟩ := bnd hF
      refine c_loop _ (fun (s : Int × (List (Way)) × (List (Bool))) a w => ∃ c234 M235 c237 M238, Ok u m221 ([(b96, Obj.cells [(Value.int .i64 x83.Op), (Value.int .i64 x83.A), (Value.int .i64 x83.B), (Value.string (bs x83.S))].toArray 35 (0, 0))] :: M238 :: M235 :: [(b5, Obj.cells [c1, c3].toArray 25 (0, 0))] :: S) w ∧ Env 145 a [(1, (Value.pointer (some ⟨b5, 0, none⟩))), (4, c234), (5, c237), (6, (Value.int .i64 i_45)), (8, c217), (9, c222), (10, (Value.int .i64 s.1))] ∧ InR .i64 s.1 ∧ ORow 68 2 pWay m221 c234 s.2.1 M235 ∧ ORow 4 1 pB m221 c237 s.2.2 M238) (fun (b : ((List (Way)) × (List (Bool)))) e a w => e = (.exit 3) ∧ ∃ c365 M366 c368 M369, Ok u m221 ([(b96, Obj.cells [(Value.int .i64 x83.Op), (Value.int .i64 x83.A), (Value.int .i64 x83.B), (Value.string (bs x83.S))].toArray 35 (0, 0))] :: M369 :: M366 :: [(b5, Obj.cells [c1, c3].toArray 25 (0, 0))] :: S) w ∧ Env 145 a [(1, (Value.pointer (some ⟨b5, 0, none⟩))), (4, c365), (5, c368), (6, (Value.int .i64 i_45))] ∧ ORow 68 2 pWay m221 c365 b.1 M366 ∧ ORow 4 1 pB m221 c368 b.2 M369) ?_ ?_ N _ a w hL ⟨c50, M51, c53, M54, ok, E.keep [1, 4, 5, 6, 8, 9, 10], (show InR .i64 (0) by decide), h52, h55⟩
      rotate_left
      · intro e a w _ hO
        obtain ⟨rfl, c359, M360, c362, M363, ok, E, h361, h364⟩ := hO
        refine b_hit ?_
        refine b_norm ?_
        refine t_norm ?_
        refine c_region ?_
        refine l_val E ok (y_move rfl) rfl rfl fun a E => ?_
        refine l_val E ok (y_add rfl rfl (InR.inc r49 (pL_InR h4) hc56)) rfl rfl fun a E => ?_
        refine l_val E ok (y_assign rfl) rfl rfl fun a E => ?_
        refine wpList_nil ?_
        obtain rfl := Option.some.inj hF
        exact step_n ⟨m221, c359, M360, c362, M363, le_m0, (ok.pk 4 [1, 2, 3] rfl (by decide)), E.keep [1, 4, 5, 6], (InR.inc r49 (pL_InR h4) hc56), h361, h364⟩
      rintro ⟨k_240, l_241, differs_242⟩ a w r ⟨c244, M245, c247, M248, ok, E, r243, h246, h249⟩ hF
      replace hF : calqueref34_ways_b2 N o109 r219 k_240 l_241 differs_242 = some r := hF
      unfold calqueref34_ways_b2 at hF
      refine wp_seq ?_
      refine wp_seq ?_
      refine c_region ?_
      refine l_val E ok (y_move rfl) rfl rfl fun a E => ?_
      refine l_val E ok (y_move rfl) rfl rfl fun a E => ?_
      refine l_val E ok (y_lenL sl_74 h223 rfl) rfl rfl fun a E => ?_
      refine l_val E ok (y_lss rfl rfl) rfl rfl fun a E => ?_
      refine wpList_nil ?_
      refine t_norm ?_
      refine c_if E rfl (fun hc250 => ?_) (fun hc250 => ?_)
      rotate_left
      · replace hF := cond_f hc250 hF
        refine wp_exit ?_
        refine t_exit ?_
        obtain rfl := Option.some.inj hF
        exact step_o (by nofun) (⟨rfl, ⟨c244, M245, c247, M248, ok, E.keep [1, 4, 5, 6], h246, h249⟩⟩)
      replace hF := cond_t hc250 hF
      refine wp_skip ?_
      refine t_norm ?_
      refine wp_seq ?_
      refine wp_block ?_
      refine wp_seq ?_
      refine c_region ?_
      refine l_val E ok (y_move rfl) rfl rfl fun a E => ?_
      refine l_val E ok (y_move rfl) rfl rfl fun a E => ?_
      obtain ⟨x251, e252, hF⟩ := bnd hF
      obtain ⟨b253, o254, es255, hl256, rr257, at258, yy259⟩ := idxAt sl_74 h223 e252 (P := Tryd.prog) (X := .tmp 111) (I := .tmp 112) (kd := .i64) (ev_of E rfl) (ev_of E rfl)
      obtain ⟨rfl, r260⟩ := rr257
      refine l_val E ok (yy259 _ _) rfl rfl fun a E => ?_
      refine l_val E ok (y_load one_3 rfl (Holds.ro at258)) rfl rfl fun a E => ?_
      refine l_val E ok (y_assign rfl) rfl rfl fun a E => ?_
      refine wpList_nil ?_
      refine t_norm ?_
      refine wp_seq ?_
      refine c_region ?_
      refine l_val E ok (y_move rfl) rfl rfl fun a E => ?_
      refine l_val E ok (y_move rfl) rfl rfl fun a E => ?_
      refine l_val E ok (y_move rfl) rfl rfl fun a E => ?_
      refine l_val E ok (y_move rfl) rfl rfl fun a E => ?_
      obtain ⟨x261, e262, hF⟩ := bnd hF
      obtain ⟨b263, o264, hp265, yy266⟩ := orowAt sl_46 h249 e262 (P := Tryd.prog) (X := .tmp 117) (I := .tmp 118) (kd := .i64) (ev_of E rfl) (ev_of E rfl)
      refine l_val E ok (yy266 _ _) rfl rfl fun a E => ?_
      obtain ⟨es267, hl268, rr269, hh270⟩ := orowGet h249 e262 hp265 (by decide)
      obtain rfl := rr269
      refine l_val E ok (y_load one_4 rfl (hh270 _ _ _ 1 rfl)) rfl rfl fun a E => ?_
      refine l_val E ok (y_move rfl) rfl rfl fun a E => ?_
      refine bsplit x261 (fun hc271 => ?_) (fun hc271 => ?_)
      · replace hF := cond_t hc271 hF
        replace E := E.upd 121 hc271 rfl
        refine l_skip E rfl rfl fun a E => ?_
        refine l_skip E rfl rfl fun a E => ?_
        refine l_skip E rfl rfl fun a E => ?_
        refine l_skip E rfl rfl fun a E => ?_
        refine l_skip E rfl rfl fun a E => ?_
        refine l_skip E rfl rfl fun a E => ?_
        refine l_skip E rfl rfl fun a E => ?_
        refine l_skip E rfl rfl fun a E => ?_
        refine l_skip E rfl rfl fun a E => ?_
        refine l_skip E rfl rfl fun a E => ?_
        refine l_skip E rfl rfl fun a E => ?_
        refine l_skip E rfl rfl fun a E => ?_
        refine l_skip E rfl rfl fun a E => ?_
        refine l_skip E rfl rfl fun a E => ?_
        refine l_skip E rfl rfl fun a E => ?_
        refine l_val E ok (y_pickT rfl rfl) rfl rfl fun a E => ?_
        obtain ⟨x272, e273, hF⟩ := bnd hF
        obtain ⟨b274, o275, hp276, yy277⟩ := orowAt sl_46 h249 e273 (P := Tryd.prog) (X := .tmp 115) (I := .tmp 116) (kd := .i64) (ev_of E rfl) (ev_of E rfl)
        refine l_val E ok (yy277 _ _) rfl rfl fun a E => ?_
        obtain ⟨l278, e279, hF⟩ := bnd hF
        refine l_storeRow (R := pB) E ok 1 rfl h249 e273 hp276 rfl rfl inf_4 rfl rfl rfl ⟨rfl, trivial⟩ pB_mk e279 rfl fun M280 w ok h281 => ?_
        refine wpList_nil ?_
        refine t_norm ?_
        refine c_region ?_
        refine l_val E ok (y_move rfl) rfl rfl fun a E => ?_
        refine l_val E ok (y_move rfl) rfl rfl fun a E => ?_
        refine l_val E ok (y_move rfl) rfl rfl fun a E => ?_
        refine l_val E ok (y_build (ps := [(0, .const (Value.bool true)), (1, .tmp 141)]) (qs := [(0, [(Value.bool true)]), (1, [c217])]) (cs := [(Value.bool true), c217]) zero_68 places_68 rfl ⟨rfl, rfl, rfl, ⟨rfl, (pL_cells h218), rfl, trivial⟩⟩ rfl) rfl rfl fun a E => ?_
        obtain ⟨x282, e283, hF⟩ := bnd hF
        obtain ⟨b284, o285, hp286, yy287⟩ := orowAt sl_61 h246 e283 (P := Tryd.prog) (X := .tmp 139) (I := .tmp 140) (kd := .i64) (ev_of E rfl) (ev_of E rfl)
        refine l_val E ok (yy287 _ _) rfl rfl fun a E => ?_
        obtain ⟨l288, e289, hF⟩ := bnd hF
        refine l_storeRow (R := pWay) E ok 2 rfl h246 e283 hp286 rfl rfl inf_68 rfl rfl rfl ⟨rfl, (pL_one h218), trivial⟩ ⟨_, rfl, h218⟩ e289 rfl fun M290 w ok h291 => ?_
        refine wpList_nil ?_
        refine b_norm ?_
        refine t_norm ?_
        refine c_region ?_
        refine l_val E ok (y_move rfl) rfl rfl fun a E => ?_
        refine l_val E ok (y_add rfl rfl (InR.inc r243 (pL_InR h223) hc250)) rfl rfl fun a E => ?_
        refine l_val E ok (y_assign rfl) rfl rfl fun a E => ?_
        refine wpList_nil ?_
        obtain rfl := Option.some.inj hF
        exact step_n ⟨c244, M290, c247, M280, ok, E.keep [1, 4, 5, 6, 8, 9, 10], (InR.inc r243 (pL_InR h223) hc250), h291, h281⟩
      replace hF := cond_f hc271 hF
      replace E := E.upd 121 hc271 rfl
      refine l_val E ok (y_move rfl) rfl rfl fun a E => ?_
      refine l_val E ok (y_move rfl) rfl rfl fun a E => ?_
      obtain ⟨x292, e293, hF⟩ := bnd hF
      obtain ⟨b294, o295, hp296, yy297⟩ := orowAt sl_61 h246 e293 (P := Tryd.prog) (X := .tmp 122) (I := .tmp 123) (kd := .i64) (ev_of E rfl) (ev_of E rfl)
      refine l_val E ok (yy297 _ _) rfl rfl fun a E => ?_
      refine l_val E ok (y_fieldAddr fo_68_0 rfl) rfl rfl fun a E => ?_
      obtain ⟨es298, hl299, rr300, hh301⟩ := orowGet h246 e293 hp296 (by decide)
      obtain ⟨c302, rfl, h303⟩ := rr300
      refine l_val E ok (y_load one_4 rfl (Holds.sub 0 1 (hh301 _ _ _ 2 rfl))) rfl rfl fun a E => ?_
      refine l_val E ok (y_move rfl) rfl rfl fun a E => ?_
      refine bsplit x292.reached (fun hc304 => ?_) (fun hc304 => ?_)
      rotate_left
      · replace hF := cond_f hc304 hF
        replace E := E.upd 127 hc304 rfl
        refine l_skip E rfl rfl fun a E => ?_
        refine l_skip E rfl rfl fun a E => ?_
        refine l_skip E rfl rfl fun a E => ?_
        refine l_skip E rfl rfl fun a E => ?_
        refine l_skip E rfl rfl fun a E => ?_
        refine l_skip E rfl rfl fun a E => ?_
        refine l_skip E rfl rfl fun a E => ?_
        refine l_skip E rfl rfl fun a E => ?_
        refine l_val E ok (y_pickF rfl rfl) rfl rfl fun a E => ?_
        refine l_val E ok (y_pickF rfl rfl) rfl rfl fun a E => ?_
        obtain ⟨x339, e340, hF⟩ := bnd hF
        obtain ⟨b341, o342, hp343, yy344⟩ := orowAt sl_46 h249 e340 (P := Tryd.prog) (X := .tmp 115) (I := .tmp 116) (kd := .i64) (ev_of E rfl) (ev_of E rfl)
        refine l_val E ok (yy344 _ _) rfl rfl fun a E => ?_
        obtain ⟨l345, e346, hF⟩ := bnd hF
        refine l_storeRow (R := pB) E ok 1 rfl h249 e340 hp343 rfl rfl inf_4 rfl rfl rfl ⟨rfl, trivial⟩ pB_mk e346 rfl fun M347 w ok h348 => ?_
        refine wpList_nil ?_
        refine t_norm ?_
        refine c_region ?_
        refine l_val E ok (y_move rfl) rfl rfl fun a E => ?_
        refine l_val E ok (y_move rfl) rfl rfl fun a E => ?_
        refine l_val E ok (y_move rfl) rfl rfl fun a E => ?_
        refine l_val E ok (y_build (ps := [(0, .const (Value.bool true)), (1, .tmp 141)]) (qs := [(0, [(Value.bool true)]), (1, [c217])]) (cs := [(Value.bool true), c217]) zero_68 places_68 rfl ⟨rfl, rfl, rfl, ⟨rfl, (pL_cells h218), rfl, trivial⟩⟩ rfl) rfl rfl fun a E => ?_
        obtain ⟨x349, e350, hF⟩ := bnd hF
        obtain ⟨b351, o352, hp353, yy354⟩ := orowAt sl_61 h246 e350 (P := Tryd.prog) (X := .tmp 139) (I := .tmp 140) (kd := .i64) (ev_of E rfl) (ev_of E rfl)
        refine l_val E ok (yy354 _ _) rfl rfl fun a E => ?_
        obtain ⟨l355, e356, hF⟩ := bnd hF
        refine l_storeRow (R := pWay) E ok 2 rfl h246 e350 hp353 rfl rfl inf_68 rfl rfl rfl ⟨rfl, (pL_one h218), trivial⟩ ⟨_, rfl, h218⟩ e356 rfl fun M357 w ok h358 => ?_
        refine wpList_nil ?_
        refine b_norm ?_
        refine t_norm ?_
        refine c_region ?_
        refine l_val E ok (y_move rfl) rfl rfl fun a E => ?_
        refine l_val E ok (y_add rfl rfl (InR.inc r243 (pL_InR h223) hc250)) rfl rfl fun a E => ?_
        refine l_val E ok (y_assign rfl) rfl rfl fun a E => ?_
        refine wpList_nil ?_
        obtain rfl := Option.some.inj hF
        exact step_n ⟨c244, M357, c247, M347, ok, E.keep [1, 4, 5, 6, 8, 9, 10], (InR.inc r243 (pL_InR h223) hc250), h358, h348⟩
      replace hF := cond_t hc304 hF
      replace E := E.upd 127 hc304 rfl
      refine l_val E ok (y_move rfl) rfl rfl fun a E => ?_
      refine l_val E ok (y_move rfl) rfl rfl fun a E => ?_
      obtain ⟨x305, e306, hF⟩ := bnd hF
      obtain ⟨b307, o308, hp309, yy310⟩ := orowAt sl_61 h246 e306 (P := Tryd.prog) (X := .tmp 128) (I := .tmp 129) (kd := .i64) (ev_of E rfl) (ev_of E rfl)
      refine l_val E ok (yy310 _ _) rfl rfl fun a E => ?_
      refine l_val E ok (y_fieldAddr fo_68_1 rfl) rfl rfl fun a E => ?_
      obtain ⟨es311, hl312, rr313, hh314⟩ := orowGet h246 e306 hp309 (by decide)
      obtain ⟨c315, rfl, h316⟩ := rr313
      refine l_val E ok (y_load one_22 rfl (Holds.sub 1 1 (hh314 _ _ _ 2 rfl))) rfl rfl fun a E => ?_
      refine l_val E ok (y_move rfl) rfl rfl fun a E => ?_
      obtain ⟨r317, e318, hF⟩ := bnd hF
      refine l_call E go_40 rfl (calqueref34_same_w N _ x305.open_ h316 _ o109 h218 e318 hG ok) rfl rfl ?_
      rintro _ w ⟨rfl, ok⟩
      refine ⟨_, rfl, fun a E => ?_⟩
      refine l_val E ok (y_not rfl) rfl rfl fun a E => ?_
      refine l_val E ok (y_pickT rfl rfl) rfl rfl fun a E => ?_
      refine l_val E ok (y_pickF rfl rfl) rfl rfl fun a E => ?_
      obtain ⟨x319, e320, hF⟩ := bnd hF
      obtain ⟨b321, o322, hp323, yy324⟩ := orowAt sl_46 h249 e320 (P := Tryd.prog) (X := .tmp 115) (I := .tmp 116) (kd := .i64) (ev_of E rfl) (ev_of E rfl)
      refine l_val E ok (yy324 _ _) rfl rfl fun a E => ?_
      obtain ⟨l325, e326, hF⟩ := bnd hF
      refine l_storeRow (R := pB) E ok 1 rfl h249 e320 hp323 rfl rfl inf_4 rfl rfl rfl ⟨rfl, trivial⟩ pB_mk e326 rfl fun M327 w ok h328 => ?_
      refine wpList_nil ?_
      refine t_norm ?_
      refine c_region ?_
      refine l_val E ok (y_move rfl) rfl rfl fun a E => ?_
      refine l_val E ok (y_move rfl) rfl rfl fun a E => ?_
      refine l_val E ok (y_move rfl) rfl rfl fun a E => ?_
      refine l_val E ok (y_build (ps := [(0, .const (Value.bool true)), (1, .tmp 141)]) (qs := [(0, [(Value.bool true)]), (1, [c217])]) (cs := [(Value.bool true), c217]) zero_68 places_68 rfl ⟨rfl, rfl, rfl, ⟨rfl, (pL_cells h218), rfl, trivial⟩⟩ rfl) rfl rfl fun a E => ?_
      obtain ⟨x329, e330, hF⟩ := bnd hF
      obtain ⟨b331, o332, hp333, yy334⟩ := orowAt sl_61 h246 e330 (P := Tryd.prog) (X := .tmp 139) (I := .tmp 140) (kd := .i64) (ev_of E rfl) (ev_of E rfl)
      refine l_val E ok (yy334 _ _) rfl rfl fun a E => ?_
      obtain ⟨l335, e336, hF⟩ := bnd hF
      refine l_storeRow (R := pWay) E ok 2 rfl h246 e330 hp333 rfl rfl inf_68 rfl rfl rfl ⟨rfl, (pL_one h218), trivial⟩ ⟨_, rfl, h218⟩ e336 rfl fun M337 w ok h338 => ?_
      refine wpList_nil ?_
      refine b_norm ?_
      refine t_norm ?_
      refine c_region ?_
      refine l_val E ok (y_move rfl) rfl rfl fun a E => ?_
      refine l_val E ok (y_add rfl rfl (InR.inc r243 (pL_InR h223) hc250)) rfl rfl fun a E => ?_
      refine l_val E ok (y_assign rfl) rfl rfl fun a E => ?_
      refine wpList_nil ?_
      obtain rfl := Option.some.inj hF
      exact step_n ⟨c244, M337, c247, M327, ok, E.keep [1, 4, 5, 6, 8, 9, 10], (InR.inc r243 (pL_InR h223) hc250), h338, h328⟩
  replace hF := hJ
  clear hJ
  have le_m48 := Mem.le.refl m48
  refine c_if E rfl (fun hc115 => ?_) (fun hc115 => ?_)
  · as_aux_lemma =>
      replace hF := cond_t hc115 hF
      obtain ⟨o116, hJ, hF⟩ := bnd hF
      refine c_mono (Q' := fun e a w => e = .normal ∧ ∃ c117 M118, Ok u m48 (M118 :: [(b96, Obj.cells [(Value.int .i64 x83.Op), (Value.int .i64 x83.A), (Value.int .i64 x83.B), (Value.string (bs x83.S))].toArray 35 (0, 0))] :: M54 :: M51 :: [(b5, Obj.cells [c1, c3].toArray 25 (0, 0))] :: S) w ∧ Env 145 a [(1, (Value.pointer (some ⟨b5, 0, none⟩))), (4, c50), (5, c53), (6, (Value.int .i64 i_45)), (8, c117)] ∧ ORow 9 1 pS m48 c117 o116 M118) ?_ ?_
      rotate_left
      · clear hJ
        intro e a w hO
        obtain ⟨rfl, c169, M170, ok, E, h171⟩ := hO
        obtain ⟨m172, hle, ok, hfz⟩ := (ok.frs 0 rfl).freeze
        have h173 := ORow.froz mS h171 hle hfz (by decide)
        have le_m0 := le_m0.trans hle
        have le_m48 := le_m48.trans hle
        have h2 := (mL mS).up hle h2
        have h4 := (mL mIns).up hle h4
        have h52 := ORow.up mWay hle h52
        have h55 := ORow.up mB hle h55
        have h68 := (mL mS).up hle h68
        have at90 := At.up hle at90
        have h108 := (mL mS).up hle h108
        obtain rfl := Option.some.inj hF
        exact (sl ⟨rfl, ⟨m172, c169, le_m48, ok, E.keep [1, 4, 5, 6, 8], h173⟩⟩)
      replace hF := hJ
      clear hJ
      obtain ⟨l123, e124, hF⟩ := bnd hF
      obtain ⟨l131, e132, hF⟩ := bnd hF
      obtain rfl := Option.some.inj hF
      refine k_begin [] (Cls u m48 ([(b96, Obj.cells [(Value.int .i64 x83.Op), (Value.int .i64 x83.A), (Value.int .i64 x83.B), (Value.string (bs x83.S))].toArray 35 (0, 0))] :: M54 :: M51 :: [(b5, Obj.cells [c1, c3].toArray 25 (0, 0))] :: [])) (Cls u m48 ([(b96, Obj.cells [(Value.int .i64 x83.Op), (Value.int .i64 x83.A), (Value.int .i64 x83.B), (Value.string (bs x83.S))].toArray 35 (0, 0))] :: M54 :: M51 :: [(b5, Obj.cells [c1, c3].toArray 25 (0, 0))] :: [])) (by kernel_rfl) ?_
      intro w hw
      replace ok := okdrew ok hw
      clear hw
      refine k_next (cl1 ⟨m48, _, le_m48, ok, ⟨memAt 0 rfl, memAt 1 rfl, memAt 2 rfl, memAt 3 rfl, trivial⟩⟩ ⟨m48, _, le_m48, ok, ⟨memAt 0 rfl, memAt 1 rfl, memAt 2 rfl, memAt 3 rfl, trivial⟩⟩) fun hT => ?_
      refine k_take 1 E rfl (by kernel_rfl) nP hT (y_move rfl) rfl rfl fun a E => ?_
      refine k_take 3 E rfl (by kernel_rfl) nP hT (y_fieldAddr fo_35_3 rfl) rfl rfl fun a E => ?_
      refine k_take 4 E rfl (by kernel_rfl) nP hT (y_load one_9 rfl (Holds.cown 0 rfl rfl)) rfl rfl fun a E => ?_
      refine k_all [0, 5] (by kernel_rfl) rfl (all_c ?_ (all_c ?_ (all_n)))
      rotate_left
      · refine wpOp_of_list (o := _) rfl ?_
        refine l_slit (R := pS) (xo := [.tmp 60]) (xs := ([x83.S] : List (List UInt8))) E ok sl_22 zero_9 rfl ⟨⟨_, rfl, rfl, (pS_mk l95)⟩, trivial⟩ rfl rfl rfl rfl fun c157 M158 a w E ok h159 => ?_
        refine wpList_nil ?_
        refine t_norm ?_
        refine k_next (cl1 ⟨m48, _, le_m48, ok, ⟨memAt 1 rfl, memAt 2 rfl, memAt 3 rfl, memAt 4 rfl, trivial⟩⟩ ⟨m48, _, le_m48, ok, ⟨memAt 1 rfl, memAt 2 rfl, memAt 3 rfl, memAt 4 rfl, trivial⟩⟩) fun hT => ?_
        refine k_all [0] (by kernel_rfl) rfl (one_c ?_)
        · refine wpOp_of_list (o := _) rfl ?_
          refine l_slit (R := pS) (xo := []) (xs := ([] : List (List UInt8))) E ok sl_22 zero_9 rfl trivial rfl rfl rfl rfl fun c160 M161 a w E ok h162 => ?_
          refine wpList_nil ?_
          refine t_norm ?_
          refine k_next (cl1 ⟨m48, _, le_m48, ok, ⟨memAt 2 rfl, memAt 3 rfl, memAt 4 rfl, memAt 5 rfl, trivial⟩⟩ ⟨m48, _, le_m48, ok, ⟨memAt 2 rfl, memAt 3 rfl, memAt 4 rfl, memAt 5 rfl, trivial⟩⟩) fun hT => ?_
          refine k_all [2] (by kernel_rfl) rfl (one_c ?_)
          · refine wpOp_of_list (o := _) rfl ?_
            refine l_app (R := pS) E ok 0 mS sl_22 Tryd.underlying22 rfl h162 (SrcOK.ofL h108 ok) e124 ⟨_, zero_9, rfl⟩ rfl rfl rfl rfl fun c163 M164 a w E ok h165 => ?_
            refine wpList_nil ?_
            refine t_norm ?_
            refine k_next (cl1 ⟨m48, _, le_m48, ok, ⟨memAt 2 rfl, memAt 3 rfl, memAt 4 rfl, memAt 5 rfl, trivial⟩⟩ ⟨m48, _, le_m48, ok, ⟨memAt 2 rfl, memAt 3 rfl, memAt 4 rfl, memAt 5 rfl, trivial⟩⟩) fun hT => ?_
            refine k_all [6] (by kernel_rfl) rfl (one_c ?_)
            · refine wpOp_of_list (o := _) rfl ?_
              refine l_app (R := pS) E ok 0 mS sl_22 Tryd.underlying22 rfl h165 (SrcOK.ofRow h159 1 rfl ok) e132 ⟨_, zero_9, rfl⟩ rfl rfl rfl rfl fun c166 M167 a w E ok h168 => ?_
              refine wpList_nil ?_
              refine t_norm ?_
              refine k_next (cl1 ⟨m48, _, le_m48, ok, ⟨memAt 2 rfl, memAt 3 rfl, memAt 4 rfl, memAt 5 rfl, trivial⟩⟩ ⟨m48, _, le_m48, ok, ⟨memAt 2 rfl, memAt 3 rfl, memAt 4 rfl, memAt 5 rfl, trivial⟩⟩) fun hT => ?_
              refine k_take 7 E rfl (by kernel_rfl) nP hT (y_assign rfl) rfl rfl fun a E => ?_
              refine k_done (by kernel_rfl) ?_
              exact ⟨rfl, ⟨c166, M167, (ok.pk 6 [0, 2, 3, 4, 5] rfl (by decide)), E.keep [1, 4, 5, 6, 8], h168⟩⟩
      refine wpOp_of_list (o := _) rfl ?_
      refine l_slit (R := pS) (xo := []) (xs := ([] : List (List UInt8))) E ok sl_22 zero_9 rfl trivial rfl rfl rfl rfl fun c136 M137 a w E ok h138 => ?_
      refine wpList_nil ?_
      refine t_norm ?_
      refine k_next (cl1 ⟨m48, _, le_m48, ok, ⟨memAt 1 rfl, memAt 2 rfl, memAt 3 rfl, memAt 4 rfl, trivial⟩⟩ ⟨m48, _, le_m48, ok, ⟨memAt 1 rfl, memAt 2 rfl, memAt 3 rfl, memAt 4 rfl, trivial⟩⟩) fun hT => ?_
      refine k_all [2, 5] (by kernel_rfl) rfl (all_c ?_ (all_c ?_ (all_n)))
      · refine wpOp_of_list (o := _) rfl ?_
        refine l_app (R := pS) E ok 0 mS sl_22 Tryd.underlying22 rfl h138 (SrcOK.ofL h108 ok) e124 ⟨_, zero_9, rfl⟩ rfl rfl rfl rfl fun c139 M140 a w E ok h141 => ?_
        refine wpList_nil ?_
        refine t_norm ?_
        refine k_next (cl1 ⟨m48, _, le_m48, ok, ⟨memAt 1 rfl, memAt 2 rfl, memAt 3 rfl, memAt 4 rfl, trivial⟩⟩ ⟨m48, _, le_m48, ok, ⟨memAt 1 rfl, memAt 2 rfl, memAt 3 rfl, memAt 4 rfl, trivial⟩⟩) fun hT => ?_
        refine k_all [5] (by kernel_rfl) rfl (one_c ?_)
        · refine wpOp_of_list (o := _) rfl ?_
          refine l_slit (R := pS) (xo := [.tmp 60]) (xs := ([x83.S] : List (List UInt8))) E ok sl_22 zero_9 rfl ⟨⟨_, rfl, rfl, (pS_mk l95)⟩, trivial⟩ rfl rfl rfl rfl fun c142 M143 a w E ok h144 => ?_
          refine wpList_nil ?_
          refine t_norm ?_
          refine k_next (cl1 ⟨m48, _, le_m48, ok, ⟨memAt 2 rfl, memAt 3 rfl, memAt 4 rfl, memAt 5 rfl, trivial⟩⟩ ⟨m48, _, le_m48, ok, ⟨memAt 2 rfl, memAt 3 rfl, memAt 4 rfl, memAt 5 rfl, trivial⟩⟩) fun hT => ?_
          refine k_all [6] (by kernel_rfl) rfl (one_c ?_)
          · refine wpOp_of_list (o := _) rfl ?_
            refine l_app (R := pS) E ok 1 mS sl_22 Tryd.underlying22 rfl h141 (SrcOK.ofRow h144 0 rfl ok) e132 ⟨_, zero_9, rfl⟩ rfl rfl rfl rfl fun c145 M146 a w E ok h147 => ?_
            refine wpList_nil ?_
            refine t_norm ?_
            refine k_next (cl1 ⟨m48, _, le_m48, ok, ⟨memAt 2 rfl, memAt 3 rfl, memAt 4 rfl, memAt 5 rfl, trivial⟩⟩ ⟨m48, _, le_m48, ok, ⟨memAt 2 rfl, memAt 3 rfl, memAt 4 rfl, memAt 5 rfl, trivial⟩⟩) fun hT => ?_
            refine k_take 7 E rfl (by kernel_rfl) nP hT (y_assign rfl) rfl rfl fun a E => ?_
            refine k_done (by kernel_rfl) ?_
            exact ⟨rfl, ⟨c145, M146, (ok.pk 6 [1, 2, 3, 4, 5] rfl (by decide)), E.keep [1, 4, 5, 6, 8], h147⟩⟩
      refine wpOp_of_list (o := _) rfl ?_
      refine l_slit (R := pS) (xo := [.tmp 60]) (xs := ([x83.S] : List (List UInt8))) E ok sl_22 zero_9 rfl ⟨⟨_, rfl, rfl, (pS_mk l95)⟩, trivial⟩ rfl rfl rfl rfl fun c148 M149 a w E ok h150 => ?_
      refine wpList_nil ?_
      refine t_norm ?_
      refine k_next (cl1 ⟨m48, _, le_m48, ok, ⟨memAt 2 rfl, memAt 3 rfl, memAt 4 rfl, memAt 5 rfl, trivial⟩⟩ ⟨m48, _, le_m48, ok, ⟨memAt 2 rfl, memAt 3 rfl, memAt 4 rfl, memAt 5 rfl, trivial⟩⟩) fun hT => ?_
      refine k_all [2] (by kernel_rfl) rfl (one_c ?_)
      · refine wpOp_of_list (o := _) rfl ?_
        refine l_app (R := pS) E ok 1 mS sl_22 Tryd.underlying22 rfl h138 (SrcOK.ofL h108 ok) e124 ⟨_, zero_9, rfl⟩ rfl rfl rfl rfl fun c151 M152 a w E ok h153 => ?_
        refine wpList_nil ?_
        refine t_norm ?_
        refine k_next (cl1 ⟨m48, _, le_m48, ok, ⟨memAt 2 rfl, memAt 3 rfl, memAt 4 rfl, memAt 5 rfl, trivial⟩⟩ ⟨m48, _, le_m48, ok, ⟨memAt 2 rfl, memAt 3 rfl, memAt 4 rfl, memAt 5 rfl, trivial⟩⟩) fun hT => ?_
        refine k_all [6] (by kernel_rfl) rfl (one_c ?_)
        · refine wpOp_of_list (o := _) rfl ?_
          refine l_app (R := pS) E ok 1 mS sl_22 Tryd.underlying22 rfl h153 (SrcOK.ofRow h150 0 rfl ok) e132 ⟨_, zero_9, rfl⟩ rfl rfl rfl rfl fun c154 M155 a w E ok h156 => ?_
          refine wpList_nil ?_
          refine t_norm ?_
          refine k_next (cl1 ⟨m48, _, le_m48, ok, ⟨memAt 2 rfl, memAt 3 rfl, memAt 4 rfl, memAt 5 rfl, trivial⟩⟩ ⟨m48, _, le_m48, ok, ⟨memAt 2 rfl, memAt 3 rfl, memAt 4 rfl, memAt 5 rfl, trivial⟩⟩) fun hT => ?_
          refine k_take 7 E rfl (by kernel_rfl) nP hT (y_assign rfl) rfl rfl fun a E => ?_
          refine k_done (by kernel_rfl) ?_
          exact ⟨rfl, ⟨c154, M155, (ok.pk 6 [1, 2, 3, 4, 5] rfl (by decide)), E.keep [1, 4, 5, 6, 8], h156⟩⟩
  replace hF := cond_f hc115 hF
  refine wp_seq ?_
  refine wp_seq ?_
  refine c_draw (by kernel_rfl) (by kernel_rfl) ok ?_
  refine q_val E (y_fieldAddr fo_35_0 rfl) rfl rfl fun a E => ?_
  refine q_val E (y_load one_3 rfl (Holds.own 0 rfl rfl)) rfl rfl fun a E => ?_
  refine q_val E (y_eql rfl rfl) rfl rfl fun a E => ?_
  refine q_val E (y_move rfl) rfl rfl fun a E => ?_
  refine bsplit (x83.Op == 3) (fun hc174 => ?_) (fun hc174 => ?_)
  rotate_left
  · as_aux_lemma =>
      replace hF := cond_f hc174 hF
      replace E := E.upd 67 hc174 rfl
      refine q_skip E rfl rfl fun a E => ?_
      refine q_skip E rfl rfl fun a E => ?_
      refine q_skip E rfl rfl fun a E => ?_
      refine q_skip E rfl rfl fun a E => ?_
      refine q_skip E rfl rfl fun a E => ?_
      refine q_skip E rfl rfl fun a E => ?_
      refine q_skip E rfl rfl fun a E => ?_
      refine q_skip E rfl rfl fun a E => ?_
      refine q_skip E rfl rfl fun a E => ?_
      refine q_skip E rfl rfl fun a E => ?_
      refine q_skip E rfl rfl fun a E => ?_
      refine q_skip E rfl rfl fun a E => ?_
      refine q_skip E rfl rfl fun a E => ?_
      refine q_skip E rfl rfl fun a E => ?_
      refine q_val E (y_pickF rfl rfl) rfl rfl fun a E => ?_
      refine q_val E (y_assign rfl) rfl rfl fun a E => ?_
      refine wpQuiet_nil ?_
      intro w ok
      refine t_norm ?_
      refine c_if E rfl (fun h => by cases h) (fun _ => ?_)
      refine c_region ?_
      refine l_val E ok (y_fieldAddr fo_35_0 rfl) rfl rfl fun a E => ?_
      refine l_val E ok (y_load one_3 rfl (Holds.own 0 rfl rfl)) rfl rfl fun a E => ?_
      refine l_val E ok (y_eql rfl rfl) rfl rfl fun a E => ?_
      refine l_val E ok (y_move rfl) rfl rfl fun a E => ?_
      refine bsplit (x83.Op == 13) (fun hc200 => ?_) (fun hc200 => ?_)
      rotate_left
      · replace hF := cond_f hc200 hF
        replace E := E.upd 86 hc200 rfl
        refine l_skip E rfl rfl fun a E => ?_
        refine l_skip E rfl rfl fun a E => ?_
        refine l_skip E rfl rfl fun a E => ?_
        refine l_val E ok (y_pickF rfl rfl) rfl rfl fun a E => ?_
        refine l_val E ok (y_assign rfl) rfl rfl fun a E => ?_
        refine wpList_nil ?_
        refine t_norm ?_
        refine c_if E rfl (fun h => by cases h) (fun _ => ?_)
        refine wp_seq ?_
        refine c_region ?_
        refine l_val E ok (y_fieldAddr fo_35_0 rfl) rfl rfl fun a E => ?_
        refine l_val E ok (y_load one_3 rfl (Holds.own 0 rfl rfl)) rfl rfl fun a E => ?_
        refine l_val E ok (y_eql rfl rfl) rfl rfl fun a E => ?_
        refine l_val E ok (y_assign rfl) rfl rfl fun a E => ?_
        refine wpList_nil ?_
        refine t_norm ?_
        refine c_if E rfl (fun hc210 => ?_) (fun hc210 => ?_)
        rotate_left
        · replace hF := cond_f hc210 hF
          refine wp_skip ?_
          obtain rfl := Option.some.inj hF
          exact (sl ⟨rfl, ⟨m48, c107, le_m48, ok, E.keep [1, 4, 5, 6, 8], h108⟩⟩)
        replace hF := cond_t hc210 hF
        refine c_region ?_
        refine l_val E ok (y_move rfl) rfl rfl fun a E => ?_
        refine l_val E ok (y_move rfl) rfl rfl fun a E => ?_
        refine l_val E ok (y_lenL sl_22 h108 rfl) rfl rfl fun a E => ?_
        refine l_val E ok (y_subw rfl rfl) rfl rfl fun a E => ?_
        obtain ⟨l211, e212, hF⟩ := bnd hF
        obtain ⟨c213, h214, yy215⟩ := pL_slice sl_22 h108 e212 (P := Tryd.prog) (X := .tmp 97) (lov := none) (hiv := (some (.tmp 100))) (ev_of E rfl) (sb_of E rfl) (sb_of E ⟨_, rfl⟩)
        refine l_val E ok (yy215 _ _) rfl rfl fun a E => ?_
        refine l_val E ok (y_assign rfl) rfl rfl fun a E => ?_
        refine wpList_nil ?_
        obtain rfl := Option.some.inj hF
        exact (sl ⟨rfl, ⟨m48, c213, le_m48, ok, E.keep [1, 4, 5, 6, 8], h214⟩⟩)
      replace hF := cond_t hc200 hF
      replace E := E.upd 86 hc200 rfl
      refine l_val E ok (y_move rfl) rfl rfl fun a E => ?_
      refine l_val E ok (y_lenL sl_22 h108 rfl) rfl rfl fun a E => ?_
      refine l_val E ok (y_gtr rfl rfl) rfl rfl fun a E => ?_
      refine l_val E ok (y_pickT rfl rfl) rfl rfl fun a E => ?_
      refine l_val E ok (y_assign rfl) rfl rfl fun a E => ?_
      refine wpList_nil ?_
      refine t_norm ?_
      refine c_if E rfl (fun hc201 => ?_) (fun hc201 => ?_)
      · replace hF := cond_t hc201 hF
        refine wp_seq ?_
        refine c_region ?_
        refine l_val E ok (y_move rfl) rfl rfl fun a E => ?_
        refine l_val E ok (y_move rfl) rfl rfl fun a E => ?_
        refine l_val E ok (y_assign rfl) rfl rfl fun a E => ?_
        refine l_val E ok (y_assign rfl) rfl rfl fun a E => ?_
        refine wpList_nil ?_
        refine t_norm ?_
        refine wp_ret ?_
        obtain ⟨m202, hle, ok, hfz⟩ := (ok.frs 2 rfl).freeze
        have h203 := ORow.froz mWay h52 hle hfz (by decide)
        have le_m0 := le_m0.trans hle
        have le_m48 := le_m48.trans hle
        have h2 := (mL mS).up hle h2
        have h4 := (mL mIns).up hle h4
        have h55 := ORow.up mB hle h55
        have h68 := (mL mS).up hle h68
        have at90 := At.up hle at90
        have h108 := (mL mS).up hle h108
        have hret : calqueref34_ways_R u m0 S (l_46, i_45) a w := ⟨m202, c50, le_m0, ok.drop.drop.drop, E.d, ⟨rv_t E rfl, rv_t E rfl, trivial⟩, h203, r49⟩
        obtain rfl := Option.some.inj hF
        exact (sr ⟨rfl, hret⟩)
      replace hF := cond_f hc201 hF
      refine wp_seq ?_
      refine c_region ?_
      refine l_val E ok (y_fieldAddr fo_35_0 rfl) rfl rfl fun a E => ?_
      refine l_val E ok (y_load one_3 rfl (Holds.own 0 rfl rfl)) rfl rfl fun a E => ?_
      refine l_val E ok (y_eql rfl rfl) rfl rfl fun a E => ?_
      refine l_val E ok (y_assign rfl) rfl rfl fun a E => ?_
      refine wpList_nil ?_
      refine t_norm ?_
      refine c_if E rfl (fun hc204 => ?_) (fun hc204 => ?_)
      rotate_left
      · replace hF := cond_f hc204 hF
        refine wp_skip ?_
        obtain rfl := Option.some.inj hF
        exact (sl ⟨rfl, ⟨m48, c107, le_m48, ok, E.keep [1, 4, 5, 6, 8], h108⟩⟩)
      replace hF := cond_t hc204 hF
      refine c_region ?_
      refine l_val E ok (y_move rfl) rfl rfl fun a E => ?_
      refine l_val E ok (y_move rfl) rfl rfl fun a E => ?_
      refine l_val E ok (y_lenL sl_22 h108 rfl) rfl rfl fun a E => ?_
      refine l_val E ok (y_subw rfl rfl) rfl rfl fun a E => ?_
      obtain ⟨l205, e206, hF⟩ := bnd hF
      obtain ⟨c207, h208, yy209⟩ := pL_slice sl_22 h108 e206 (P := Tryd.prog) (X := .tmp 97) (lov := none) (hiv := (some (.tmp 100))) (ev_of E rfl) (sb_of E rfl) (sb_of E ⟨_, rfl⟩)
      refine l_val E ok (yy209 _ _) rfl rfl fun a E => ?_
      refine l_val E ok (y_assign rfl) rfl rfl fun a E => ?_
      refine wpList_nil ?_
      obtain rfl := Option.some.inj hF
      exact (sl ⟨rfl, ⟨m48, c207, le_m48, ok, E.keep [1, 4, 5, 6, 8], h208⟩⟩)
  replace hF := cond_t hc174 hF
  replace E := E.upd 67 hc174 rfl
  refine q_val E (y_move rfl) rfl rfl fun a E => ?_
  refine q_val E (y_lenL sl_22 h108 rfl) rfl rfl fun a E => ?_
  refine q_val E (y_eql rfl rfl) rfl rfl fun a E => ?_
  refine q_val E (y_move rfl) rfl rfl fun a E => ?_
  refine bsplit ((x97.open_.length : Int) == 0) (fun hc175 => ?_) (fun hc175 => ?_)
  · replace hF := cond_t hc175 hF
    replace E := E.upd 71 hc175 rfl
    refine q_skip E rfl rfl fun a E => ?_
    refine q_skip E rfl rfl fun a E => ?_
    refine q_skip E rfl rfl fun a E => ?_
    refine q_skip E rfl rfl fun a E => ?_
    refine q_skip E rfl rfl fun a E => ?_
    refine q_skip E rfl rfl fun a E => ?_
    refine q_skip E rfl rfl fun a E => ?_
    refine q_skip E rfl rfl fun a E => ?_
    refine q_skip E rfl rfl fun a E => ?_
    refine q_val E (y_pickT rfl rfl) rfl rfl fun a E => ?_
    refine q_val E (y_pickT rfl rfl) rfl rfl fun a E => ?_
    refine q_val E (y_assign rfl) rfl rfl fun a E => ?_
    refine wpQuiet_nil ?_
    intro w ok
    refine t_norm ?_
    refine c_if E rfl (fun _ => ?_) (fun h => by cases h)
    refine wp_skip ?_
    refine t_norm ?_
    refine c_if E rfl (fun _ => ?_) (fun h => by cases h)
    refine wp_seq ?_
    refine c_region ?_
    refine l_val E ok (y_move rfl) rfl rfl fun a E => ?_
    refine l_val E ok (y_move rfl) rfl rfl fun a E => ?_
    refine l_val E ok (y_assign rfl) rfl rfl fun a E => ?_
    refine l_val E ok (y_assign rfl) rfl rfl fun a E => ?_
    refine wpList_nil ?_
    refine t_norm ?_
    refine wp_ret ?_
    obtain ⟨m176, hle, ok, hfz⟩ := (ok.frs 2 rfl).freeze
    have h177 := ORow.froz mWay h52 hle hfz (by decide)
    have le_m0 := le_m0.trans hle
    have le_m48 := le_m48.trans hle
    have h2 := (mL mS).up hle h2
    have h4 := (mL mIns).up hle h4
    have h55 := ORow.up mB hle h55
    have h68 := (mL mS).up hle h68
    have at90 := At.up hle at90
    have h108 := (mL mS).up hle h108
    have hret : calqueref34_ways_R u m0 S (l_46, i_45) a w := ⟨m176, c50, le_m0, ok.drop.drop.drop, E.d, ⟨rv_t E rfl, rv_t E rfl, trivial⟩, h177, r49⟩
    obtain rfl := Option.some.inj hF
    exact (sr ⟨rfl, hret⟩)
  replace hF := cond_f hc175 hF
  replace E := E.upd 71 hc175 rfl
  refine q_val E (y_move rfl) rfl rfl fun a E => ?_
  refine q_val E (y_move rfl) rfl rfl fun a E => ?_
  refine q_val E (y_lenL sl_22 h108 rfl) rfl rfl fun a E => ?_
  refine q_val E (y_subw rfl rfl) rfl rfl fun a E => ?_
  obtain ⟨x178, e179, hF⟩ := bnd hF
  obtain ⟨b180, o181, es182, hl183, rr184, at185, yy186⟩ := idxAt sl_22 h108 e179 (P := Tryd.prog) (X := .tmp 72) (I := .tmp 75) (kd := .i64) (ev_of E rfl) (ev_of E rfl)
  obtain ⟨rfl, l187⟩ := rr184
  refine q_val E (yy186 _ _) rfl rfl fun a E => ?_
  refine q_val E (y_load one_9 rfl (Holds.ro at185)) rfl rfl fun a E => ?_
  refine q_val E (y_fieldAddr fo_35_3 rfl) rfl rfl fun a E => ?_
  refine q_val E (y_load one_9 rfl (Holds.own 0 rfl rfl)) rfl rfl fun a E => ?_
  refine q_val E (y_sneq rfl rfl) rfl rfl fun a E => ?_
  refine q_val E (y_pickF rfl rfl) rfl rfl fun a E => ?_
  refine q_val E (y_pickT rfl rfl) rfl rfl fun a E => ?_
  refine q_val E (y_assign rfl) rfl rfl fun a E => ?_
  refine wpQuiet_nil ?_
  intro w ok
  refine t_norm ?_
  obtain ⟨o188, hJ, hF⟩ := bnd hF
  refine c_mono (Q' := fun e a w => e = .normal ∧ Ok u m48 ([(b96, Obj.cells [(Value.int .i64 x83.Op), (Value.int .i64 x83.A), (Value.int .i64 x83.B), (Value.string (bs x83.S))].toArray 35 (0, 0))] :: M54 :: M51 :: [(b5, Obj.cells [c1, c3].toArray 25 (0, 0))] :: S) w ∧ Env 145 a [(1, (Value.pointer (some ⟨b5, 0, none⟩))), (4, c50), (5, c53), (6, (Value.int .i64 i_45)), (7, (Value.pointer (some ⟨b96, 0, none⟩))), (8, c107), (63, (Value.bool o188))]) ?_ ?_
  · replace hF := hJ
    clear hJ
    refine c_if E rfl (fun hc189 => ?_) (fun hc189 => ?_)
    · replace hF := cond_t hc189 hF
      refine wp_skip ?_
      obtain rfl := Option.some.inj hF
      exact ⟨rfl, ⟨ok, E.keep [1, 4, 5, 6, 7, 8, 63]⟩⟩
    replace hF := cond_f hc189 hF
    refine c_region ?_
    refine l_val E ok (y_fieldAddr fo_35_0 rfl) rfl rfl fun a E => ?_
    refine l_val E ok (y_load one_3 rfl (Holds.own 0 rfl rfl)) rfl rfl fun a E => ?_
    refine l_val E ok (y_eql rfl rfl) rfl rfl fun a E => ?_
    refine l_val E ok (y_move rfl) rfl rfl fun a E => ?_
    refine bsplit (x83.Op == 13) (fun hc190 => ?_) (fun hc190 => ?_)
    · replace hF := cond_t hc190 hF
      replace E := E.upd 86 hc190 rfl
      refine l_val E ok (y_move rfl) rfl rfl fun a E => ?_
      refine l_val E ok (y_lenL sl_22 h108 rfl) rfl rfl fun a E => ?_
      refine l_val E ok (y_gtr rfl rfl) rfl rfl fun a E => ?_
      refine l_val E ok (y_pickT rfl rfl) rfl rfl fun a E => ?_
      refine l_val E ok (y_assign rfl) rfl rfl fun a E => ?_
      refine wpList_nil ?_
      obtain rfl := Option.some.inj hF
      exact ⟨rfl, ⟨ok, E.keep [1, 4, 5, 6, 7, 8, 63]⟩⟩
    replace hF := cond_f hc190 hF
    replace E := E.upd 86 hc190 rfl
    refine l_skip E rfl rfl fun a E => ?_
    refine l_skip E rfl rfl fun a E => ?_
    refine l_skip E rfl rfl fun a E => ?_
    refine l_val E ok (y_pickF rfl rfl) rfl rfl fun a E => ?_
    refine l_val E ok (y_assign rfl) rfl rfl fun a E => ?_
    refine wpList_nil ?_
    obtain rfl := Option.some.inj hF
    exact ⟨rfl, ⟨ok, E.keep [1, 4, 5, 6, 7, 8, 63]⟩⟩
  clear hJ
  intro e a w hO
  obtain ⟨rfl, ok, E⟩ := hO
  refine t_norm ?_
  refine c_if E rfl (fun hc191 => ?_) (fun hc191 => ?_)
  · replace hF := cond_t hc191 hF
    refine wp_seq ?_
    refine c_region ?_
    refine l_val E ok (y_move rfl) rfl rfl fun a E => ?_
    refine l_val E ok (y_move rfl) rfl rfl fun a E => ?_
    refine l_val E ok (y_assign rfl) rfl rfl fun a E => ?_
    refine l_val E ok (y_assign rfl) rfl rfl fun a E => ?_
    refine wpList_nil ?_
    refine t_norm ?_
    refine wp_ret ?_
    obtain ⟨m192, hle, ok, hfz⟩ := (ok.frs 2 rfl).freeze
    have h193 := ORow.froz mWay h52 hle hfz (by decide)
    have le_m0 := le_m0.trans hle
    have le_m48 := le_m48.trans hle
    have h2 := (mL mS).up hle h2
    have h4 := (mL mIns).up hle h4
    have h55 := ORow.up mB hle h55
    have h68 := (mL mS).up hle h68
    have at90 := At.up hle at90
    have h108 := (mL mS).up hle h108
    have at185 := At.up hle at185
    have hret : calqueref34_ways_R u m0 S (l_46, i_45) a w := ⟨m192, c50, le_m0, ok.drop.drop.drop, E.d, ⟨rv_t E rfl, rv_t E rfl, trivial⟩, h193, r49⟩
    obtain rfl := Option.some.inj hF
    exact (sr ⟨rfl, hret⟩)
  replace hF := cond_f hc191 hF
  refine wp_seq ?_
  refine c_region ?_
  refine l_val E ok (y_fieldAddr fo_35_0 rfl) rfl rfl fun a E => ?_
  refine l_val E ok (y_load one_3 rfl (Holds.own 0 rfl rfl)) rfl rfl fun a E => ?_
  refine l_val E ok (y_eql rfl rfl) rfl rfl fun a E => ?_
  refine l_val E ok (y_assign rfl) rfl rfl fun a E => ?_
  refine wpList_nil ?_
  refine t_norm ?_
  refine c_if E rfl (fun hc194 => ?_) (fun hc194 => ?_)
  rotate_left
  · replace hF := cond_f hc194 hF
    refine wp_skip ?_
    obtain rfl := Option.some.inj hF
    exact (sl ⟨rfl, ⟨m48, c107, le_m48, ok, E.keep [1, 4, 5, 6, 8], h108⟩⟩)
  replace hF := cond_t hc194 hF
  refine c_region ?_
  refine l_val E ok (y_move rfl) rfl rfl fun a E => ?_
  refine l_val E ok (y_move rfl) rfl rfl fun a E => ?_
  refine l_val E ok (y_lenL sl_22 h108 rfl) rfl rfl fun a E => ?_
  refine l_val E ok (y_subw rfl rfl) rfl rfl fun a E => ?_
  obtain ⟨l195, e196, hF⟩ := bnd hF
  obtain ⟨c197, h198, yy199⟩ := pL_slice sl_22 h108 e196 (P := Tryd.prog) (X := .tmp 97) (lov := none) (hiv := (some (.tmp 100))) (ev_of E rfl) (sb_of E rfl) (sb_of E ⟨_, rfl⟩)
  refine l_val E ok (yy199 _ _) rfl rfl fun a E => ?_
  refine l_val E ok (y_assign rfl) rfl rfl fun a E => ?_
  refine wpList_nil ?_
  obtain rfl := Option.some.inj hF
  exact (sl ⟨rfl, ⟨m48, c197, le_m48, ok, E.keep [1, 4, 5, 6, 8], h198⟩⟩)

def calqueref34_Check_R (u : World) (m0 : Mem) (S : Segs) (r : Int × Int) (a : Act) (w : World) : Prop :=
  Ok u m0 S w ∧ a.defers = [] ∧ RVs Tryd.prog a w [.t 2 (.int .i64 r.1), .t 3 (.int .i64 r.2)] ∧ InR .i64 r.1 ∧ InR .i64 r.2
set_option maxHeartbeats 4000000 in
set_option maxRecDepth 100000 in
theorem calqueref34_Check_w {u : World} {m0 : Mem} {S : Segs} {w : World} (N : Nat) (vc_0 : List Value) (c_0 : Code) (hc_0 : pCode m0 vc_0 c_0) {r : Int × Int} (hF : calqueref34_Check N c_0 = some r) (hG : Glob u) (ok : Ok u m0 S w) :
    Calls Tryd.prog 15 [.agg vc_0.toArray].toArray w fun e w' => (e = .returned (.tuple [(.int .i64 r.1), (.int .i64 r.2)].toArray) ∧ Ok u m0 S w') ∧ InR .i64 r.1 ∧ InR .i64 r.2 := by
  obtain ⟨c1, c3, rfl, h2, h4⟩ := hc_0
  have hb0 := ok.base
  have le_m0 := Mem.le.refl m0
  unfold calqueref34_Check at hF
  have fin : ∀ a w, calqueref34_Check_R u m0 S r a w → bodyPost Tryd.prog Tryd.f15 (fun e w' => (e = .returned (.tuple [(.int .i64 r.1), (.int .i64 r.2)].toArray) ∧ Ok u m0 S w') ∧ InR .i64 r.1 ∧ InR .i64 r.2) .ret a w := by
    intro a w h
    obtain ⟨ok, hd, hrv, h0, h1⟩ := h
    exact c_ret2 [.t 2 (.int .i64 r.1), .t 3 (.int .i64 r.2)] hd rfl hrv ⟨⟨rfl, ok⟩, h0, h1⟩
  refine enter Tryd.func15 rfl rfl rfl fun a E => ?_
  refine wp_seq ?_
  refine c_region ?_
  refine l_box E ok rfl rfl rfl fun b5 a w E ok => ?_
  refine l_val E ok (y_assign rfl) rfl rfl fun a E => ?_
  refine l_val E ok (y_assign rfl) rfl rfl fun a E => ?_
  refine wpList_nil ?_
  refine t_norm ?_
  refine wp_seq ?_
  refine wp_seq ?_
  refine c_region ?_
  refine l_val E ok (y_fieldAddr fo_25_0 rfl) rfl rfl fun a E => ?_
  refine l_val E ok (y_load one_22 rfl (Holds.own 0 rfl rfl)) rfl rfl fun a E => ?_
  obtain ⟨r6, e7, hF⟩ := bnd hF
  refine l_call E go_14 rfl (calqueref34_Named_w N _ c_0.Names h2 e7 hG ok) rfl rfl ?_
  rintro _ w ⟨rfl, ok⟩
  refine ⟨_, rfl, fun a E => ?_⟩
  refine l_val E ok (y_not rfl) rfl rfl fun a E => ?_
  refine wpList_nil ?_
  refine t_norm ?_
  refine c_if E rfl (fun hc8 => ?_) (fun hc8 => ?_)
  · replace hF := cond_t hc8 hF
    refine wp_seq ?_
    refine c_region ?_
    refine l_val E ok (y_assign rfl) rfl rfl fun a E => ?_
    refine l_val E ok (y_assign rfl) rfl rfl fun a E => ?_
    refine wpList_nil ?_
    refine t_norm ?_
    refine wp_ret ?_
    refine t_ret ?_
    have hret : calqueref34_Check_R u m0 S (0, 1) a w := ⟨ok.drop, E.d, ⟨rv_t E rfl, rv_t E rfl, trivial⟩, (show InR .i64 (0) by decide), (show InR .i64 (1) by decide)⟩
    obtain rfl := Option.some.inj hF
    exact fin _ _ hret
  replace hF := cond_f hc8 hF
  refine wp_skip ?_
  refine t_norm ?_
  refine wp_seq ?_
  refine wp_seq ?_
  refine c_region ?_
  refine l_val E ok (y_fieldAddr fo_25_1 rfl) rfl rfl fun a E => ?_
  refine l_val E ok (y_load one_23 rfl (Holds.own 0 rfl rfl)) rfl rfl fun a E => ?_
  refine l_val E ok (y_lenL sl_23 h4 rfl) rfl rfl fun a E => ?_
  refine l_val E ok (y_gtr rfl rfl) rfl rfl fun a E => ?_
  refine wpList_nil ?_
  refine t_norm ?_
  refine c_if E rfl (fun hc9 => ?_) (fun hc9 => ?_)
  · replace hF := cond_t hc9 hF
    refine wp_seq ?_
    refine c_region ?_
    refine l_val E ok (y_assign rfl) rfl rfl fun a E => ?_
    refine l_val E ok (y_assign rfl) rfl rfl fun a E => ?_
    refine wpList_nil ?_
    refine t_norm ?_
    refine wp_ret ?_
    refine t_ret ?_
    have hret : calqueref34_Check_R u m0 S (0, 6) a w := ⟨ok.drop, E.d, ⟨rv_t E rfl, rv_t E rfl, trivial⟩, (show InR .i64 (0) by decide), (show InR .i64 (6) by decide)⟩
    obtain rfl := Option.some.inj hF
    exact fin _ _ hret
  replace hF := cond_f hc9 hF
  refine wp_skip ?_
  refine t_norm ?_
  refine wp_seq ?_
  refine wp_seq ?_
  refine c_region ?_
  refine l_val E ok (y_assign rfl) rfl rfl fun a E => ?_
  refine wpList_nil ?_
  refine t_norm ?_
  refine wp_block ?_
  obtain ⟨o11, hL, hF⟩ := bnd hF
  refine c_loop _ (fun (s : Int) a w => Ok u m0 ([(b5, Obj.cells [c1, c3].toArray 25 (0, 0))] :: S) w ∧ Env 54 a [(1, (Value.pointer (some ⟨b5, 0, none⟩))), (4, (Value.int .i64 s))] ∧ InR .i64 s) (fun (b : (Unit ⊕ (Int × Int))) e a w => (Sum.elim (fun b41 => e = (.exit 0) ∧ Ok u m0 ([(b5, Obj.cells [c1, c3].toArray 25 (0, 0))] :: S) w ∧ Env 54 a [(1, (Value.pointer (some ⟨b5, 0, none⟩)))]) (fun b42 => e = .ret ∧ calqueref34_Check_R u m0 S b42 a w)) b) ?_ ?_ N _ a w hL ⟨ok, E.keep [1, 4], (show InR .i64 (0) by decide)⟩
  · rintro i_13 a w r ⟨ok, E, r14⟩ hF
    replace hF : calqueref34_Check_b1 N c_0 i_13 = some r := hF
    unfold calqueref34_Check_b1 at hF
    refine wp_seq ?_
    refine wp_seq ?_
    refine c_region ?_
    refine l_val E ok (y_move rfl) rfl rfl fun a E => ?_
    refine l_val E ok (y_fieldAddr fo_25_1 rfl) rfl rfl fun a E => ?_
    refine l_val E ok (y_load one_23 rfl (Holds.own 0 rfl rfl)) rfl rfl fun a E => ?_
    refine l_val E ok (y_lenL sl_23 h4 rfl) rfl rfl fun a E => ?_
    refine l_val E ok (y_lss rfl rfl) rfl rfl fun a E => ?_
    refine wpList_nil ?_
    refine t_norm ?_
    refine c_if E rfl (fun hc15 => ?_) (fun hc15 => ?_)
    rotate_left
    · replace hF := cond_f hc15 hF
      refine wp_exit ?_
      refine t_exit ?_
      obtain rfl := Option.some.inj hF
      exact step_o (by nofun) (sl ⟨rfl, ⟨ok, E.keep [1]⟩⟩)
    replace hF := cond_t hc15 hF
    refine wp_skip ?_
    refine t_norm ?_
    refine wp_seq ?_
    refine wp_block ?_
    refine wp_seq ?_
    refine c_region ?_
    refine l_val E ok (y_loadAgg (cs := [c1, c3]) agg_25 rfl rfl (Holds.own 0 rfl rfl)) rfl rfl fun a E => ?_
    refine l_val E ok (y_move rfl) rfl rfl fun a E => ?_
    obtain ⟨r16, e17, hF⟩ := bnd hF
    refine l_call E go_12 rfl (calqueref34_Proper_w N _ c_0 ⟨_, _, rfl, h2, h4⟩ i_13 r14 e17 hG ok) rfl rfl ?_
    rintro _ w ⟨rfl, ok⟩
    refine ⟨_, rfl, fun a E => ?_⟩
    refine l_val E ok (y_not rfl) rfl rfl fun a E => ?_
    refine wpList_nil ?_
    refine t_norm ?_
    refine c_if E rfl (fun hc18 => ?_) (fun hc18 => ?_)
    rotate_left
    · replace hF := cond_f hc18 hF
      refine wp_skip ?_
      refine b_norm ?_
      refine t_norm ?_
      refine c_region ?_
      refine l_val E ok (y_move rfl) rfl rfl fun a E => ?_
      refine l_val E ok (y_add rfl rfl (InR.inc r14 (pL_InR h4) hc15)) rfl rfl fun a E => ?_
      refine l_val E ok (y_assign rfl) rfl rfl fun a E => ?_
      refine wpList_nil ?_
      obtain rfl := Option.some.inj hF
      exact step_n ⟨ok, E.keep [1, 4], (InR.inc r14 (pL_InR h4) hc15)⟩
    replace hF := cond_t hc18 hF
    refine wp_seq ?_
    refine c_region ?_
    refine l_val E ok (y_move rfl) rfl rfl fun a E => ?_
    refine l_val E ok (y_assign rfl) rfl rfl fun a E => ?_
    refine l_val E ok (y_assign rfl) rfl rfl fun a E => ?_
    refine wpList_nil ?_
    refine t_norm ?_
    refine wp_ret ?_
    refine b_ret ?_
    refine t_ret ?_
    have hret : calqueref34_Check_R u m0 S (i_13, 4) a w := ⟨ok.drop, E.d, ⟨rv_t E rfl, rv_t E rfl, trivial⟩, r14, (show InR .i64 (4) by decide)⟩
    obtain rfl := Option.some.inj hF
    exact step_o (by nofun) (sr ⟨rfl, hret⟩)
  intro e a w _ hO
  rcases o11 with o11 | o11
  rotate_left
  · replace hF := elim_r hF
    obtain ⟨rfl, hret⟩ := hO
    refine b_ret ?_
    refine t_ret ?_
    obtain rfl := Option.some.inj hF
    exact fin _ _ hret
  replace hF := elim_l hF
  obtain ⟨rfl, ok, E⟩ := hO
  refine b_hit ?_
  refine t_norm ?_
  refine wp_seq ?_
  refine wp_seq ?_
  refine c_region ?_
  refine l_val E ok (y_fieldAddr fo_25_1 rfl) rfl rfl fun a E => ?_
  refine l_val E ok (y_load one_23 rfl (Holds.own 0 rfl rfl)) rfl rfl fun a E => ?_
  refine l_val E ok (y_lenL sl_23 h4 rfl) rfl rfl fun a E => ?_
  refine l_val E ok (y_eql rfl rfl) rfl rfl fun a E => ?_
  refine l_val E ok (y_move rfl) rfl rfl fun a E => ?_
  refine bsplit ((c_0.Ins.length : Int) == 0) (fun hc19 => ?_) (fun hc19 => ?_)
  · replace hF := cond_t hc19 hF
    replace E := E.upd 31 hc19 rfl
    refine l_skip E rfl rfl fun a E => ?_
    refine l_skip E rfl rfl fun a E => ?_
    refine l_skip E rfl rfl fun a E => ?_
    refine l_skip E rfl rfl fun a E => ?_
    refine l_skip E rfl rfl fun a E => ?_
    refine l_skip E rfl rfl fun a E => ?_
    refine l_skip E rfl rfl fun a E => ?_
    refine l_skip E rfl rfl fun a E => ?_
    refine l_skip E rfl rfl fun a E => ?_
    refine l_skip E rfl rfl fun a E => ?_
    refine l_val E ok (y_pickT rfl rfl) rfl rfl fun a E => ?_
    refine wpList_nil ?_
    refine t_norm ?_
    refine c_if E rfl (fun _ => ?_) (fun h => by cases h)
    refine wp_seq ?_
    refine c_region ?_
    refine l_val E ok (y_fieldAddr fo_25_1 rfl) rfl rfl fun a E => ?_
    refine l_val E ok (y_load one_23 rfl (Holds.own 0 rfl rfl)) rfl rfl fun a E => ?_
    refine l_val E ok (y_lenL sl_23 h4 rfl) rfl rfl fun a E => ?_
    refine l_val E ok (y_assign rfl) rfl rfl fun a E => ?_
    refine l_val E ok (y_assign rfl) rfl rfl fun a E => ?_
    refine wpList_nil ?_
    refine t_norm ?_
    refine wp_ret ?_
    refine t_ret ?_
    have hret : calqueref34_Check_R u m0 S ((c_0.Ins.length : Int), 4) a w := ⟨ok.drop, E.d, ⟨rv_t E rfl, rv_t E rfl, trivial⟩, (pL_InR h4), (show InR .i64 (4) by decide)⟩
    obtain rfl := Option.some.inj hF
    exact fin _ _ hret
  replace hF := cond_f hc19 hF
  replace E := E.upd 31 hc19 rfl
  refine l_val E ok (y_fieldAddr fo_25_1 rfl) rfl rfl fun a E => ?_
  refine l_val E ok (y_load one_23 rfl (Holds.own 0 rfl rfl)) rfl rfl fun a E => ?_
  refine l_val E ok (y_fieldAddr fo_25_1 rfl) rfl rfl fun a E => ?_
  refine l_val E ok (y_load one_23 rfl (Holds.own 0 rfl rfl)) rfl rfl fun a E => ?_
  refine l_val E ok (y_lenL sl_23 h4 rfl) rfl rfl fun a E => ?_
  refine l_val E ok (y_subw rfl rfl) rfl rfl fun a E => ?_
  obtain ⟨x20, e21, hF⟩ := bnd hF
  obtain ⟨b22, o23, es24, hl25, rr26, at27, yy28⟩ := idxAt sl_23 h4 e21 (P := Tryd.prog) (X := .tmp 33) (I := .tmp 37) (kd := .i64) (ev_of E rfl) (ev_of E rfl)
  obtain ⟨rfl, r29, r30, r31, l32⟩ := rr26
  refine l_val E ok (yy28 _ _) rfl rfl fun a E => ?_
  refine l_val E ok (y_fieldAddr fo_35_0 rfl) rfl rfl fun a E => ?_
  refine l_val E ok (y_load one_3 rfl (Holds.ro (At.sub 0 1 at27))) rfl rfl fun a E => ?_
  refine l_val E ok (y_neq rfl rfl) rfl rfl fun a E => ?_
  refine l_val E ok (y_pickF rfl rfl) rfl rfl fun a E => ?_
  refine wpList_nil ?_
  refine t_norm ?_
  refine c_if E rfl (fun hc33 => ?_) (fun hc33 => ?_)
  · replace hF := cond_t hc33 hF
    refine wp_seq ?_
    refine c_region ?_
    refine l_val E ok (y_fieldAddr fo_25_1 rfl) rfl rfl fun a E => ?_
    refine l_val E ok (y_load one_23 rfl (Holds.own 0 rfl rfl)) rfl rfl fun a E => ?_
    refine l_val E ok (y_lenL sl_23 h4 rfl) rfl rfl fun a E => ?_
    refine l_val E ok (y_assign rfl) rfl rfl fun a E => ?_
    refine l_val E ok (y_assign rfl) rfl rfl fun a E => ?_
    refine wpList_nil ?_
    refine t_norm ?_
    refine wp_ret ?_
    refine t_ret ?_
    have hret : calqueref34_Check_R u m0 S ((c_0.Ins.length : Int), 4) a w := ⟨ok.drop, E.d, ⟨rv_t E rfl, rv_t E rfl, trivial⟩, (pL_InR h4), (show InR .i64 (4) by decide)⟩
    obtain rfl := Option.some.inj hF
    exact fin _ _ hret
  replace hF := cond_f hc33 hF
  refine wp_skip ?_
  refine t_norm ?_
  refine wp_seq ?_
  refine wp_seq ?_
  refine c_region ?_
  refine l_val E ok (y_loadAgg (cs := [c1, c3]) agg_25 rfl rfl (Holds.own 0 rfl rfl)) rfl rfl fun a E => ?_
  obtain ⟨r34, e35, hF⟩ := bnd hF
  refine l_call E go_29 rfl (calqueref34_ways_w N _ c_0 ⟨_, _, rfl, h2, h4⟩ e35 hG ok) rfl rfl ?_
  rintro _ w ⟨m36, c37, rfl, hle, ok, h38, r39⟩
  have le_m0 := le_m0.trans hle
  have h2 := (mL mS).up hle h2
  have h4 := (mL mIns).up hle h4
  have at27 := At.up hle at27
  refine ⟨_, rfl, fun a E => ?_⟩
  refine l_val E ok (y_move rfl) rfl rfl fun a E => ?_
  refine l_val E ok (y_extract rfl rfl) rfl rfl fun a E => ?_
  refine l_val E ok (y_extract rfl rfl) rfl rfl fun a E => ?_
  refine l_val E ok (y_assign rfl) rfl rfl fun a E => ?_
  refine l_val E ok (y_assign rfl) rfl rfl fun a E => ?_
  refine wpList_nil ?_
  refine t_norm ?_
  refine wp_seq ?_
  refine c_region ?_
  refine l_val E ok (y_move rfl) rfl rfl fun a E => ?_
  refine l_val E ok (y_geq rfl rfl) rfl rfl fun a E => ?_
  refine wpList_nil ?_
  refine t_norm ?_
  refine c_if E rfl (fun hc40 => ?_) (fun hc40 => ?_)
  · replace hF := cond_t hc40 hF
    refine wp_seq ?_
    refine c_region ?_
    refine l_val E ok (y_move rfl) rfl rfl fun a E => ?_
    refine l_val E ok (y_assign rfl) rfl rfl fun a E => ?_
    refine l_val E ok (y_assign rfl) rfl rfl fun a E => ?_
    refine wpList_nil ?_
    refine t_norm ?_
    refine wp_ret ?_
    refine t_ret ?_
    have hret : calqueref34_Check_R u m0 S (r34.2, 7) a w := ⟨(ok.drop).down hb0 le_m0, E.d, ⟨rv_t E rfl, rv_t E rfl, trivial⟩, r39, (show InR .i64 (7) by decide)⟩
    obtain rfl := Option.some.inj hF
    exact fin _ _ hret
  replace hF := cond_f hc40 hF
  refine wp_skip ?_
  refine t_norm ?_
  refine wp_seq ?_
  refine c_region ?_
  refine l_val E ok (y_assign rfl) rfl rfl fun a E => ?_
  refine l_val E ok (y_assign rfl) rfl rfl fun a E => ?_
  refine wpList_nil ?_
  refine t_norm ?_
  refine wp_ret ?_
  have hret : calqueref34_Check_R u m0 S (0, 0) a w := ⟨(ok.drop).down hb0 le_m0, E.d, ⟨rv_t E rfl, rv_t E rfl, trivial⟩, (show InR .i64 (0) by decide), (show InR .i64 (0) by decide)⟩
  obtain rfl := Option.some.inj hF
  exact fin _ _ hret

def verify_Reached_R (u : World) (m0 : Mem) (S : Segs) (r : (List (Bool)) × Int) (a : Act) (w : World) : Prop :=
  ∃ m1 v0, m0.le m1 ∧ Ok u m1 S w ∧ a.defers = [] ∧ RVs Tryd.prog a w [.t 2 v0, .t 3 (.int .i64 r.2)] ∧ (pL 1 pB) m1 [v0] r.1 ∧ InR .i64 r.2
set_option maxHeartbeats 4000000 in
set_option maxRecDepth 100000 in
theorem verify_Reached_w {u : World} {m0 : Mem} {S : Segs} {w : World} (N : Nat) (vc_0 : List Value) (c_0 : Code) (hc_0 : pCode m0 vc_0 c_0) {r : (List (Bool)) × Int} (hF : verify_Reached N c_0 = some r) (hG : Glob u) (ok : Ok u m0 S w) :
    Calls Tryd.prog 16 [.agg vc_0.toArray].toArray w fun e w' => ∃ m1 v0, e = .returned (.tuple [v0, (.int .i64 r.2)].toArray) ∧ m0.le m1 ∧ Ok u m1 S w' ∧ (pL 1 pB) m1 [v0] r.1 ∧ InR .i64 r.2 := by
  obtain ⟨c1, c3, rfl, h2, h4⟩ := hc_0
  have le_m0 := Mem.le.refl m0
  unfold verify_Reached at hF
  have fin : ∀ a w, verify_Reached_R u m0 S r a w → bodyPost Tryd.prog Tryd.f16 (fun e w' => ∃ m1 v0, e = .returned (.tuple [v0, (.int .i64 r.2)].toArray) ∧ m0.le m1 ∧ Ok u m1 S w' ∧ (pL 1 pB) m1 [v0] r.1 ∧ InR .i64 r.2) .ret a w := by
    intro a w h
    obtain ⟨m1, v0, hle, ok, hd, hrv, h0, h1⟩ := h
    exact c_ret2 [.t 2 v0, .t 3 (.int .i64 r.2)] hd rfl hrv ⟨m1, v0, rfl, hle, ok, h0, h1⟩
  refine enter Tryd.func16 rfl rfl rfl fun a E => ?_
  refine wp_seq ?_
  refine c_region ?_
  refine l_box E ok rfl rfl rfl fun b5 a w E ok => ?_
  refine l_val E ok (y_assign rfl) rfl rfl fun a E => ?_
  refine l_val E ok (y_assign rfl) rfl rfl fun a E => ?_
  refine wpList_nil ?_
  refine t_norm ?_
  refine wp_seq ?_
  refine c_region ?_
  refine l_val E ok (y_loadAgg (cs := [c1, c3]) agg_31 rfl rfl (Holds.own 0 rfl rfl)) rfl rfl fun a E => ?_
  obtain ⟨r6, e7, hF⟩ := bnd hF
  refine l_call E go_27 rfl (verify_follow_w N _ c_0 ⟨_, _, rfl, h2, h4⟩ e7 hG ok) rfl rfl ?_
  rintro _ w ⟨m8, c9, rfl, hle, ok, h10, r11, r12⟩
  have le_m0 := le_m0.trans hle
  have h2 := (mL mS).up hle h2
  have h4 := (mL mIns).up hle h4
  refine ⟨_, rfl, fun a E => ?_⟩
  refine l_val E ok (y_move rfl) rfl rfl fun a E => ?_
  refine l_val E ok (y_extract rfl rfl) rfl rfl fun a E => ?_
  refine l_val E ok (y_extract rfl rfl) rfl rfl fun a E => ?_
  refine l_val E ok (y_extract rfl rfl) rfl rfl fun a E => ?_
  refine l_val E ok (y_assign rfl) rfl rfl fun a E => ?_
  refine l_val E ok (y_assign rfl) rfl rfl fun a E => ?_
  refine l_val E ok (y_assign rfl) rfl rfl fun a E => ?_
  refine wpList_nil ?_
  refine t_norm ?_
  refine wp_seq ?_
  refine wp_seq ?_
  refine c_region ?_
  refine l_val E ok (y_move rfl) rfl rfl fun a E => ?_
  refine l_val E ok (y_neq rfl rfl) rfl rfl fun a E => ?_
  refine wpList_nil ?_
  refine t_norm ?_
  refine c_if E rfl (fun hc13 => ?_) (fun hc13 => ?_)
  · replace hF := cond_t hc13 hF
    refine wp_seq ?_
    refine c_region ?_
    refine l_val E ok (y_move rfl) rfl rfl fun a E => ?_
    refine l_val E ok (y_assign rfl) rfl rfl fun a E => ?_
    refine l_val E ok (y_assign rfl) rfl rfl fun a E => ?_
    refine wpList_nil ?_
    refine t_norm ?_
    refine wp_ret ?_
    refine t_ret ?_
    have hret : verify_Reached_R u m0 S ([], r6.2.2) a w := ⟨m8, (.slice none 0 0), le_m0, ok.drop, E.d, ⟨rv_t E rfl, rv_t E rfl, trivial⟩, pL_nil, r12⟩
    obtain rfl := Option.some.inj hF
    exact fin _ _ hret
  replace hF := cond_f hc13 hF
  refine wp_skip ?_
  refine t_norm ?_
  refine wp_seq ?_
  refine c_region ?_
  refine l_val E ok (y_move rfl) rfl rfl fun a E => ?_
  obtain ⟨y14, e15, hF⟩ := bnd hF
  obtain ⟨b16, o17, es18, hv19, hl20, hR21, at22⟩ := pP_some h10 e15
  obtain ⟨c23, c25, c27, c29, c31, rfl, h24, h26, h28, h30, h32⟩ := hR21
  refine l_val E ok (y_nilCheckV hv19 rfl) rfl rfl fun a E => ?_
  refine l_val E ok (y_fieldAddr fo_66_2 rfl) rfl rfl fun a E => ?_
  refine l_val E ok (y_load one_46 rfl (Holds.ro (At.sub 3 1 at22))) rfl rfl fun a E => ?_
  refine l_val E ok (y_assign rfl) rfl rfl fun a E => ?_
  refine l_val E ok (y_assign rfl) rfl rfl fun a E => ?_
  refine wpList_nil ?_
  refine t_norm ?_
  refine wp_ret ?_
  have hret : verify_Reached_R u m0 S (y14.reached, 0) a w := ⟨m8, c29, le_m0, ok.drop, E.d, ⟨rv_t E rfl, rv_t E rfl, trivial⟩, h30, (show InR .i64 (0) by decide)⟩
  obtain rfl := Option.some.inj hF
  exact fin _ _ hret

def calqueref34_Reached_R (u : World) (m0 : Mem) (S : Segs) (r : (List (Bool)) × Int) (a : Act) (w : World) : Prop :=
  ∃ m1 v0, m0.le m1 ∧ Ok u m1 S w ∧ a.defers = [] ∧ RVs Tryd.prog a w [.t 2 v0, .t 3 (.int .i64 r.2)] ∧ (pL 1 pB) m1 [v0] r.1 ∧ InR .i64 r.2
set_option maxHeartbeats 4000000 in
set_option maxRecDepth 100000 in
theorem calqueref34_Reached_w {u : World} {m0 : Mem} {S : Segs} {w : World} (N : Nat) (vc_0 : List Value) (c_0 : Code) (hc_0 : pCode m0 vc_0 c_0) {r : (List (Bool)) × Int} (hF : calqueref34_Reached N c_0 = some r) (hG : Glob u) (ok : Ok u m0 S w) :
    Calls Tryd.prog 17 [.agg vc_0.toArray].toArray w fun e w' => ∃ m1 v0, e = .returned (.tuple [v0, (.int .i64 r.2)].toArray) ∧ m0.le m1 ∧ Ok u m1 S w' ∧ (pL 1 pB) m1 [v0] r.1 ∧ InR .i64 r.2 := by
  obtain ⟨c1, c3, rfl, h2, h4⟩ := hc_0
  have le_m0 := Mem.le.refl m0
  unfold calqueref34_Reached at hF
  have fin : ∀ a w, calqueref34_Reached_R u m0 S r a w → bodyPost Tryd.prog Tryd.f17 (fun e w' => ∃ m1 v0, e = .returned (.tuple [v0, (.int .i64 r.2)].toArray) ∧ m0.le m1 ∧ Ok u m1 S w' ∧ (pL 1 pB) m1 [v0] r.1 ∧ InR .i64 r.2) .ret a w := by
    intro a w h
    obtain ⟨m1, v0, hle, ok, hd, hrv, h0, h1⟩ := h
    exact c_ret2 [.t 2 v0, .t 3 (.int .i64 r.2)] hd rfl hrv ⟨m1, v0, rfl, hle, ok, h0, h1⟩
  refine enter Tryd.func17 rfl rfl rfl fun a E => ?_
  refine wp_seq ?_
  refine c_region ?_
  refine l_box E ok rfl rfl rfl fun b5 a w E ok => ?_
  refine l_val E ok (y_assign rfl) rfl rfl fun a E => ?_
  refine l_val E ok (y_assign rfl) rfl rfl fun a E => ?_
  refine wpList_nil ?_
  refine t_norm ?_
  refine wp_seq ?_
  refine wp_seq ?_
  refine c_region ?_
  refine l_val E ok (y_loadAgg (cs := [c1, c3]) agg_25 rfl rfl (Holds.own 0 rfl rfl)) rfl rfl fun a E => ?_
  obtain ⟨r6, e7, hF⟩ := bnd hF
  refine l_call E go_15 rfl (calqueref34_Check_w N _ c_0 ⟨_, _, rfl, h2, h4⟩ e7 hG ok) rfl rfl ?_
  rintro _ w ⟨⟨rfl, ok⟩, r8, r9⟩
  refine ⟨_, rfl, fun a E => ?_⟩
  refine l_val E ok (y_move rfl) rfl rfl fun a E => ?_
  refine l_val E ok (y_extract rfl rfl) rfl rfl fun a E => ?_
  refine l_val E ok (y_extract rfl rfl) rfl rfl fun a E => ?_
  refine l_val E ok (y_assign rfl) rfl rfl fun a E => ?_
  refine l_val E ok (y_assign rfl) rfl rfl fun a E => ?_
  refine wpList_nil ?_
  refine t_norm ?_
  refine wp_seq ?_
  refine c_region ?_
  refine l_val E ok (y_move rfl) rfl rfl fun a E => ?_
  refine l_val E ok (y_neq rfl rfl) rfl rfl fun a E => ?_
  refine wpList_nil ?_
  refine t_norm ?_
  refine c_if E rfl (fun hc10 => ?_) (fun hc10 => ?_)
  · replace hF := cond_t hc10 hF
    refine wp_seq ?_
    refine c_region ?_
    refine l_val E ok (y_move rfl) rfl rfl fun a E => ?_
    refine l_val E ok (y_assign rfl) rfl rfl fun a E => ?_
    refine l_val E ok (y_assign rfl) rfl rfl fun a E => ?_
    refine wpList_nil ?_
    refine t_norm ?_
    refine wp_ret ?_
    refine t_ret ?_
    have hret : calqueref34_Reached_R u m0 S ([], r6.2) a w := ⟨m0, (.slice none 0 0), le_m0, ok.drop, E.d, ⟨rv_t E rfl, rv_t E rfl, trivial⟩, pL_nil, r9⟩
    obtain rfl := Option.some.inj hF
    exact fin _ _ hret
  replace hF := cond_f hc10 hF
  refine wp_skip ?_
  refine t_norm ?_
  refine wp_seq ?_
  refine c_region ?_
  refine l_val E ok (y_loadAgg (cs := [c1, c3]) agg_25 rfl rfl (Holds.own 0 rfl rfl)) rfl rfl fun a E => ?_
  obtain ⟨r11, e12, hF⟩ := bnd hF
  refine l_call E go_29 rfl (calqueref34_ways_w N _ c_0 ⟨_, _, rfl, h2, h4⟩ e12 hG ok) rfl rfl ?_
  rintro _ w ⟨m13, c14, rfl, hle, ok, h15, r16⟩
  have le_m0 := le_m0.trans hle
  have h2 := (mL mS).up hle h2
  have h4 := (mL mIns).up hle h4
  refine ⟨_, rfl, fun a E => ?_⟩
  refine l_val E ok (y_move rfl) rfl rfl fun a E => ?_
  refine l_val E ok (y_extract rfl rfl) rfl rfl fun a E => ?_
  refine l_val E ok (y_extract rfl rfl) rfl rfl fun a E => ?_
  refine l_val E ok (y_assign rfl) rfl rfl fun a E => ?_
  refine l_val E ok (y_assign rfl) rfl rfl fun a E => ?_
  refine wpList_nil ?_
  refine t_norm ?_
  refine wp_seq ?_
  refine c_region ?_
  refine l_val E ok (y_assign rfl) rfl rfl fun a E => ?_
  refine wpList_nil ?_
  refine t_norm ?_
  refine wp_seq ?_
  refine wp_seq ?_
  refine c_region ?_
  refine l_val E ok (y_assign rfl) rfl rfl fun a E => ?_
  refine wpList_nil ?_
  refine t_norm ?_
  refine wp_block ?_
  obtain ⟨M22, ok, h23⟩ := nilrow (e := 4) (k := 1) (R := pB) ok
  obtain ⟨o24, hL, hF⟩ := bnd hF
  refine c_loop _ (fun (s : (List (Bool)) × Int) a w => ∃ c25 M26, Ok u m13 (M26 :: [(b5, Obj.cells [c1, c3].toArray 25 (0, 0))] :: S) w ∧ Env 38 a [(6, c14), (8, c25), (9, (Value.int .i64 s.2))] ∧ ORow 4 1 pB m13 c25 s.1 M26 ∧ InR .i64 s.2) (fun (b : ((List (Bool)))) e a w => e = (.exit 0) ∧ ∃ c60 M61, Ok u m13 (M61 :: [(b5, Obj.cells [c1, c3].toArray 25 (0, 0))] :: S) w ∧ Env 38 a [(8, c60)] ∧ ORow 4 1 pB m13 c60 b M61) ?_ ?_ N _ a w hL ⟨(Value.slice none 0 0), M22, ok, E.keep [6, 8, 9], h23, (show InR .i64 (0) by decide)⟩
  rotate_left
  · intro e a w _ hO
    obtain ⟨rfl, c55, M56, ok, E, h57⟩ := hO
    refine b_hit ?_
    refine t_norm ?_
    refine wp_seq ?_
    refine c_region ?_
    refine l_val E ok (y_move rfl) rfl rfl fun a E => ?_
    refine l_val E ok (y_assign rfl) rfl rfl fun a E => ?_
    refine l_val E ok (y_assign rfl) rfl rfl fun a E => ?_
    refine wpList_nil ?_
    refine t_norm ?_
    refine wp_ret ?_
    obtain ⟨m58, hle, ok, hfz⟩ := (ok.frs 0 rfl).freeze
    have h59 := ORow.froz mB h57 hle hfz (by decide)
    have le_m0 := le_m0.trans hle
    have h2 := (mL mS).up hle h2
    have h4 := (mL mIns).up hle h4
    have h15 := (mL mWay).up hle h15
    have hret : calqueref34_Reached_R u m0 S (o24, 0) a w := ⟨m58, c55, le_m0, ok.drop, E.d, ⟨rv_t E rfl, rv_t E rfl, trivial⟩, h59, (show InR .i64 (0) by decide)⟩
    obtain rfl := Option.some.inj hF
    exact fin _ _ hret
  rintro ⟨out_29, i_30⟩ a w r ⟨c31, M32, ok, E, h33, r34⟩ hF
  replace hF : calqueref34_Reached_b1 N r11 out_29 i_30 = some r := hF
  unfold calqueref34_Reached_b1 at hF
  refine wp_seq ?_
  refine wp_seq ?_
  refine c_region ?_
  refine l_val E ok (y_move rfl) rfl rfl fun a E => ?_
  refine l_val E ok (y_move rfl) rfl rfl fun a E => ?_
  refine l_val E ok (y_lenL sl_61 h15 rfl) rfl rfl fun a E => ?_
  refine l_val E ok (y_lss rfl rfl) rfl rfl fun a E => ?_
  refine wpList_nil ?_
  refine t_norm ?_
  refine c_if E rfl (fun hc35 => ?_) (fun hc35 => ?_)
  rotate_left
  · replace hF := cond_f hc35 hF
    refine wp_exit ?_
    refine t_exit ?_
    obtain rfl := Option.some.inj hF
    exact step_o (by nofun) (⟨rfl, ⟨c31, M32, ok, E.keep [8], h33⟩⟩)
  replace hF := cond_t hc35 hF
  refine wp_skip ?_
  refine t_norm ?_
  refine wp_seq ?_
  refine wp_block ?_
  refine c_region ?_
  refine l_val E ok (y_move rfl) rfl rfl fun a E => ?_
  refine l_val E ok (y_move rfl) rfl rfl fun a E => ?_
  refine l_val E ok (y_move rfl) rfl rfl fun a E => ?_
  obtain ⟨x36, e37, hF⟩ := bnd hF
  obtain ⟨b38, o39, es40, hl41, rr42, at43, yy44⟩ := idxAt sl_61 h15 e37 (P := Tryd.prog) (X := .tmp 30) (I := .tmp 31) (kd := .i64) (ev_of E rfl) (ev_of E rfl)
  obtain ⟨c45, rfl, h46⟩ := rr42
  refine l_val E ok (yy44 _ _) rfl rfl fun a E => ?_
  refine l_val E ok (y_fieldAddr fo_68_0 rfl) rfl rfl fun a E => ?_
  refine l_val E ok (y_load one_4 rfl (Holds.ro (At.sub 0 1 at43))) rfl rfl fun a E => ?_
  refine l_slit (R := pB) (xo := [.tmp 34]) (xs := ([x36.reached] : List (Bool))) E ok sl_46 zero_4 rfl ⟨⟨_, rfl, rfl, pB_mk⟩, trivial⟩ rfl rfl rfl rfl fun c47 M48 a w E ok h49 => ?_
  obtain ⟨l50, e51, hF⟩ := bnd hF
  refine l_app (R := pB) E ok 1 mB sl_46 Tryd.underlying46 rfl h33 (SrcOK.ofRow h49 0 rfl ok) e51 ⟨_, zero_4, rfl⟩ rfl rfl rfl rfl fun c52 M53 a w E ok h54 => ?_
  refine l_val E ok (y_assign rfl) rfl rfl fun a E => ?_
  refine wpList_nil ?_
  refine b_norm ?_
  refine t_norm ?_
  refine c_region ?_
  refine l_val E ok (y_move rfl) rfl rfl fun a E => ?_
  refine l_val E ok (y_add rfl rfl (InR.inc r34 (pL_InR h15) hc35)) rfl rfl fun a E => ?_
  refine l_val E ok (y_assign rfl) rfl rfl fun a E => ?_
  refine wpList_nil ?_
  obtain rfl := Option.some.inj hF
  exact step_n ⟨c52, M53, (ok.pk 3 [1, 2] rfl (by decide)), E.keep [6, 8, 9], h54, (InR.inc r34 (pL_InR h15) hc35)⟩

def calquelaw34_VerifyCheck_R (u : World) (m0 : Mem) (S : Segs) (r : Bool) (a : Act) (w : World) : Prop :=
  Ok u m0 S w ∧ a.defers = [] ∧ RVs Tryd.prog a w [.t 2 (.bool r)]
set_option maxHeartbeats 4000000 in
set_option maxRecDepth 100000 in
theorem calquelaw34_VerifyCheck_w {u : World} {m0 : Mem} {S : Segs} {w : World} (N : Nat) (vc_0 : List Value) (c_0 : Code) (hc_0 : pCode m0 vc_0 c_0) {r : Bool} (hF : calquelaw34_VerifyCheck N c_0 = some r) (hG : Glob u) (ok : Ok u m0 S w) :
    Calls Tryd.prog 7 [.agg vc_0.toArray].toArray w fun e w' => (e = .returned (.bool r) ∧ Ok u m0 S w') := by
  obtain ⟨c1, c3, rfl, h2, h4⟩ := hc_0
  have hb0 := ok.base
  have le_m0 := Mem.le.refl m0
  unfold calquelaw34_VerifyCheck at hF
  have fin : ∀ a w, calquelaw34_VerifyCheck_R u m0 S r a w → bodyPost Tryd.prog Tryd.f7 (fun e w' => (e = .returned (.bool r) ∧ Ok u m0 S w')) .ret a w := by
    intro a w h
    obtain ⟨ok, hd, hrv⟩ := h
    exact c_ret2 [.t 2 (.bool r)] hd rfl hrv ⟨rfl, ok⟩
  refine enter Tryd.func7 rfl rfl rfl fun a E => ?_
  refine wp_seq ?_
  refine c_region ?_
  refine l_box E ok rfl rfl rfl fun b5 a w E ok => ?_
  refine l_val E ok (y_assign rfl) rfl rfl fun a E => ?_
  refine wpList_nil ?_
  refine t_norm ?_
  refine wp_seq ?_
  refine wp_seq ?_
  refine c_region ?_
  obtain ⟨r6, e7, hF⟩ := bnd hF
  refine l_call E go_8 rfl (calquelaw34_awake_w N  e7 hG ok) rfl rfl ?_
  rintro _ w ⟨rfl, ok⟩
  refine ⟨_, rfl, fun a E => ?_⟩
  refine l_val E ok (y_not rfl) rfl rfl fun a E => ?_
  refine wpList_nil ?_
  refine t_norm ?_
  refine c_if E rfl (fun hc8 => ?_) (fun hc8 => ?_)
  · replace hF := cond_t hc8 hF
    refine wp_seq ?_
    refine c_region ?_
    refine l_val E ok (y_assign rfl) rfl rfl fun a E => ?_
    refine wpList_nil ?_
    refine t_norm ?_
    refine wp_ret ?_
    refine t_ret ?_
    have hret : calquelaw34_VerifyCheck_R u m0 S false a w := ⟨ok.drop, E.d, ⟨rv_t E rfl, trivial⟩⟩
    obtain rfl := Option.some.inj hF
    exact fin _ _ hret
  replace hF := cond_f hc8 hF
  refine wp_skip ?_
  refine t_norm ?_
  refine wp_seq ?_
  refine wp_seq ?_
  refine c_region ?_
  refine l_val E ok (y_loadAgg (cs := [c1, c3]) agg_25 rfl rfl (Holds.own 0 rfl rfl)) rfl rfl fun a E => ?_
  obtain ⟨r9, e10, hF⟩ := bnd hF
  refine l_call E go_9 rfl (calqueref33_Few_w N _ c_0 ⟨_, _, rfl, h2, h4⟩ e10 hG ok) rfl rfl ?_
  rintro _ w ⟨rfl, ok⟩
  refine ⟨_, rfl, fun a E => ?_⟩
  refine l_val E ok (y_not rfl) rfl rfl fun a E => ?_
  refine wpList_nil ?_
  refine t_norm ?_
  refine c_if E rfl (fun hc11 => ?_) (fun hc11 => ?_)
  · replace hF := cond_t hc11 hF
    refine wp_seq ?_
    refine c_region ?_
    refine l_val E ok (y_assign rfl) rfl rfl fun a E => ?_
    refine wpList_nil ?_
    refine t_norm ?_
    refine wp_ret ?_
    refine t_ret ?_
    have hret : calquelaw34_VerifyCheck_R u m0 S true a w := ⟨ok.drop, E.d, ⟨rv_t E rfl, trivial⟩⟩
    obtain rfl := Option.some.inj hF
    exact fin _ _ hret
  replace hF := cond_f hc11 hF
  refine wp_skip ?_
  refine t_norm ?_
  refine wp_seq ?_
  refine c_region ?_
  refine l_val E ok (y_loadAgg (cs := [c1, c3]) agg_25 rfl rfl (Holds.own 0 rfl rfl)) rfl rfl fun a E => ?_
  obtain ⟨r12, e13, hF⟩ := bnd hF
  refine l_call E go_11 rfl (calquelaw33_Own_w N _ c_0 ⟨_, _, rfl, h2, h4⟩ e13 hG ok) rfl rfl ?_
  rintro _ w ⟨m14, vs15, rfl, hle, ok, h16⟩
  have le_m0 := le_m0.trans hle
  have h2 := (mL mS).up hle h2
  have h4 := (mL mIns).up hle h4
  obtain ⟨c17, c19, rfl, h18, h20⟩ := h16
  refine ⟨_, rfl, fun a E => ?_⟩
  obtain ⟨r21, e22, hF⟩ := bnd hF
  refine l_call E go_13 rfl (verify_Check_w N _ r12 ⟨_, _, rfl, h18, h20⟩ e22 hG ok) rfl rfl ?_
  rintro _ w ⟨⟨rfl, ok⟩, r23, r24⟩
  refine ⟨_, rfl, fun a E => ?_⟩
  refine l_val E ok (y_move rfl) rfl rfl fun a E => ?_
  refine l_val E ok (y_extract rfl rfl) rfl rfl fun a E => ?_
  refine l_val E ok (y_extract rfl rfl) rfl rfl fun a E => ?_
  refine l_val E ok (y_assign rfl) rfl rfl fun a E => ?_
  refine l_val E ok (y_assign rfl) rfl rfl fun a E => ?_
  refine wpList_nil ?_
  refine t_norm ?_
  refine wp_seq ?_
  refine c_region ?_
  refine l_val E ok (y_loadAgg (cs := [c1, c3]) agg_25 rfl rfl (Holds.own 0 rfl rfl)) rfl rfl fun a E => ?_
  obtain ⟨r25, e26, hF⟩ := bnd hF
  refine l_call E go_15 rfl (calqueref34_Check_w N _ c_0 ⟨_, _, rfl, h2, h4⟩ e26 hG ok) rfl rfl ?_
  rintro _ w ⟨⟨rfl, ok⟩, r27, r28⟩
  refine ⟨_, rfl, fun a E => ?_⟩
  refine l_val E ok (y_move rfl) rfl rfl fun a E => ?_
  refine l_val E ok (y_extract rfl rfl) rfl rfl fun a E => ?_
  refine l_val E ok (y_extract rfl rfl) rfl rfl fun a E => ?_
  refine l_val E ok (y_assign rfl) rfl rfl fun a E => ?_
  refine l_val E ok (y_assign rfl) rfl rfl fun a E => ?_
  refine wpList_nil ?_
  refine t_norm ?_
  refine wp_seq ?_
  refine c_region ?_
  refine l_val E ok (y_loadAgg (cs := [c1, c3]) agg_25 rfl rfl (Holds.own 0 rfl rfl)) rfl rfl fun a E => ?_
  obtain ⟨r29, e30, hF⟩ := bnd hF
  refine l_call E go_11 rfl (calquelaw33_Own_w N _ c_0 ⟨_, _, rfl, h2, h4⟩ e30 hG ok) rfl rfl ?_
  rintro _ w ⟨m31, vs32, rfl, hle, ok, h33⟩
  have le_m0 := le_m0.trans hle
  have h2 := (mL mS).up hle h2
  have h4 := (mL mIns).up hle h4
  have h18 := (mL mS).up hle h18
  have h20 := (mL mIns).up hle h20
  obtain ⟨c34, c36, rfl, h35, h37⟩ := h33
  refine ⟨_, rfl, fun a E => ?_⟩
  obtain ⟨r38, e39, hF⟩ := bnd hF
  refine l_call E go_16 rfl (verify_Reached_w N _ r29 ⟨_, _, rfl, h35, h37⟩ e39 hG ok) rfl rfl ?_
  rintro _ w ⟨m40, c41, rfl, hle, ok, h42, r43⟩
  have le_m0 := le_m0.trans hle
  have h2 := (mL mS).up hle h2
  have h4 := (mL mIns).up hle h4
  have h18 := (mL mS).up hle h18
  have h20 := (mL mIns).up hle h20
  have h35 := (mL mS).up hle h35
  have h37 := (mL mIns).up hle h37
  refine ⟨_, rfl, fun a E => ?_⟩
  refine l_val E ok (y_move rfl) rfl rfl fun a E => ?_
  refine l_val E ok (y_extract rfl rfl) rfl rfl fun a E => ?_
  refine l_val E ok (y_extract rfl rfl) rfl rfl fun a E => ?_
  refine l_val E ok (y_assign rfl) rfl rfl fun a E => ?_
  refine l_val E ok (y_assign rfl) rfl rfl fun a E => ?_
  refine wpList_nil ?_
  refine t_norm ?_
  refine wp_seq ?_
  refine c_region ?_
  refine l_val E ok (y_loadAgg (cs := [c1, c3]) agg_25 rfl rfl (Holds.own 0 rfl rfl)) rfl rfl fun a E => ?_
  obtain ⟨r44, e45, hF⟩ := bnd hF
  refine l_call E go_17 rfl (calqueref34_Reached_w N _ c_0 ⟨_, _, rfl, h2, h4⟩ e45 hG ok) rfl rfl ?_
  rintro _ w ⟨m46, c47, rfl, hle, ok, h48, r49⟩
  have le_m0 := le_m0.trans hle
  have h2 := (mL mS).up hle h2
  have h4 := (mL mIns).up hle h4
  have h18 := (mL mS).up hle h18
  have h20 := (mL mIns).up hle h20
  have h35 := (mL mS).up hle h35
  have h37 := (mL mIns).up hle h37
  have h42 := (mL mB).up hle h42
  refine ⟨_, rfl, fun a E => ?_⟩
  refine l_val E ok (y_move rfl) rfl rfl fun a E => ?_
  refine l_val E ok (y_extract rfl rfl) rfl rfl fun a E => ?_
  refine l_val E ok (y_extract rfl rfl) rfl rfl fun a E => ?_
  refine l_val E ok (y_assign rfl) rfl rfl fun a E => ?_
  refine l_val E ok (y_assign rfl) rfl rfl fun a E => ?_
  refine wpList_nil ?_
  refine t_norm ?_
  refine wp_seq ?_
  refine wp_seq ?_
  refine c_region ?_
  refine l_val E ok (y_move rfl) rfl rfl fun a E => ?_
  refine l_val E ok (y_move rfl) rfl rfl fun a E => ?_
  refine l_val E ok (y_neq rfl rfl) rfl rfl fun a E => ?_
  refine l_val E ok (y_move rfl) rfl rfl fun a E => ?_
  refine bsplit (r21.1 != r25.1) (fun hc50 => ?_) (fun hc50 => ?_)
  · replace hF := cond_t hc50 hF
    replace E := E.upd 42 hc50 rfl
    refine l_skip E rfl rfl fun a E => ?_
    refine l_skip E rfl rfl fun a E => ?_
    refine l_skip E rfl rfl fun a E => ?_
    refine l_val E ok (y_pickT rfl rfl) rfl rfl fun a E => ?_
    refine l_val E ok (y_move rfl) rfl rfl fun a E => ?_
    refine l_skip E rfl rfl fun a E => ?_
    refine l_skip E rfl rfl fun a E => ?_
    refine l_skip E rfl rfl fun a E => ?_
    refine l_val E ok (y_pickT rfl rfl) rfl rfl fun a E => ?_
    refine l_val E ok (y_move rfl) rfl rfl fun a E => ?_
    refine l_skip E rfl rfl fun a E => ?_
    refine l_skip E rfl rfl fun a E => ?_
    refine l_skip E rfl rfl fun a E => ?_
    refine l_skip E rfl rfl fun a E => ?_
    refine l_skip E rfl rfl fun a E => ?_
    refine l_val E ok (y_pickT rfl rfl) rfl rfl fun a E => ?_
    refine wpList_nil ?_
    refine t_norm ?_
    refine c_if E rfl (fun _ => ?_) (fun h => by cases h)
    refine wp_seq ?_
    refine c_region ?_
    refine l_val E ok (y_assign rfl) rfl rfl fun a E => ?_
    refine wpList_nil ?_
    refine t_norm ?_
    refine wp_ret ?_
    refine t_ret ?_
    have hret : calquelaw34_VerifyCheck_R u m0 S false a w := ⟨(ok.drop).down hb0 le_m0, E.d, ⟨rv_t E rfl, trivial⟩⟩
    obtain rfl := Option.some.inj hF
    exact fin _ _ hret
  replace hF := cond_f hc50 hF
  replace E := E.upd 42 hc50 rfl
  refine l_val E ok (y_move rfl) rfl rfl fun a E => ?_
  refine l_val E ok (y_move rfl) rfl rfl fun a E => ?_
  refine l_val E ok (y_neq rfl rfl) rfl rfl fun a E => ?_
  refine l_val E ok (y_pickF rfl rfl) rfl rfl fun a E => ?_
  refine l_val E ok (y_move rfl) rfl rfl fun a E => ?_
  refine bsplit (r21.2 != r25.2) (fun hc51 => ?_) (fun hc51 => ?_)
  · replace hF := cond_t hc51 hF
    replace E := E.upd 47 hc51 rfl
    refine l_skip E rfl rfl fun a E => ?_
    refine l_skip E rfl rfl fun a E => ?_
    refine l_skip E rfl rfl fun a E => ?_
    refine l_val E ok (y_pickT rfl rfl) rfl rfl fun a E => ?_
    refine l_val E ok (y_move rfl) rfl rfl fun a E => ?_
    refine l_skip E rfl rfl fun a E => ?_
    refine l_skip E rfl rfl fun a E => ?_
    refine l_skip E rfl rfl fun a E => ?_
    refine l_skip E rfl rfl fun a E => ?_
    refine l_skip E rfl rfl fun a E => ?_
    refine l_val E ok (y_pickT rfl rfl) rfl rfl fun a E => ?_
    refine wpList_nil ?_
    refine t_norm ?_
    refine c_if E rfl (fun _ => ?_) (fun h => by cases h)
    refine wp_seq ?_
    refine c_region ?_
    refine l_val E ok (y_assign rfl) rfl rfl fun a E => ?_
    refine wpList_nil ?_
    refine t_norm ?_
    refine wp_ret ?_
    refine t_ret ?_
    have hret : calquelaw34_VerifyCheck_R u m0 S false a w := ⟨(ok.drop).down hb0 le_m0, E.d, ⟨rv_t E rfl, trivial⟩⟩
    obtain rfl := Option.some.inj hF
    exact fin _ _ hret
  replace hF := cond_f hc51 hF
  replace E := E.upd 47 hc51 rfl
  refine l_val E ok (y_move rfl) rfl rfl fun a E => ?_
  refine l_val E ok (y_move rfl) rfl rfl fun a E => ?_
  refine l_val E ok (y_neq rfl rfl) rfl rfl fun a E => ?_
  refine l_val E ok (y_pickF rfl rfl) rfl rfl fun a E => ?_
  refine l_val E ok (y_move rfl) rfl rfl fun a E => ?_
  refine bsplit (r38.2 != r44.2) (fun hc52 => ?_) (fun hc52 => ?_)
  · replace hF := cond_t hc52 hF
    replace E := E.upd 52 hc52 rfl
    refine l_skip E rfl rfl fun a E => ?_
    refine l_skip E rfl rfl fun a E => ?_
    refine l_skip E rfl rfl fun a E => ?_
    refine l_skip E rfl rfl fun a E => ?_
    refine l_skip E rfl rfl fun a E => ?_
    refine l_val E ok (y_pickT rfl rfl) rfl rfl fun a E => ?_
    refine wpList_nil ?_
    refine t_norm ?_
    refine c_if E rfl (fun _ => ?_) (fun h => by cases h)
    refine wp_seq ?_
    refine c_region ?_
    refine l_val E ok (y_assign rfl) rfl rfl fun a E => ?_
    refine wpList_nil ?_
    refine t_norm ?_
    refine wp_ret ?_
    refine t_ret ?_
    have hret : calquelaw34_VerifyCheck_R u m0 S false a w := ⟨(ok.drop).down hb0 le_m0, E.d, ⟨rv_t E rfl, trivial⟩⟩
    obtain rfl := Option.some.inj hF
    exact fin _ _ hret
  replace hF := cond_f hc52 hF
  replace E := E.upd 52 hc52 rfl
  refine l_val E ok (y_move rfl) rfl rfl fun a E => ?_
  refine l_val E ok (y_lenL sl_46 h42 rfl) rfl rfl fun a E => ?_
  refine l_val E ok (y_move rfl) rfl rfl fun a E => ?_
  refine l_val E ok (y_lenL sl_46 h48 rfl) rfl rfl fun a E => ?_
  refine l_val E ok (y_neq rfl rfl) rfl rfl fun a E => ?_
  refine l_val E ok (y_pickF rfl rfl) rfl rfl fun a E => ?_
  refine wpList_nil ?_
  refine t_norm ?_
  refine c_if E rfl (fun hc53 => ?_) (fun hc53 => ?_)
  · replace hF := cond_t hc53 hF
    refine wp_seq ?_
    refine c_region ?_
    refine l_val E ok (y_assign rfl) rfl rfl fun a E => ?_
    refine wpList_nil ?_
    refine t_norm ?_
    refine wp_ret ?_
    refine t_ret ?_
    have hret : calquelaw34_VerifyCheck_R u m0 S false a w := ⟨(ok.drop).down hb0 le_m0, E.d, ⟨rv_t E rfl, trivial⟩⟩
    obtain rfl := Option.some.inj hF
    exact fin _ _ hret
  replace hF := cond_f hc53 hF
  refine wp_skip ?_
  refine t_norm ?_
  refine wp_seq ?_
  refine wp_seq ?_
  refine c_region ?_
  refine l_val E ok (y_assign rfl) rfl rfl fun a E => ?_
  refine wpList_nil ?_
  refine t_norm ?_
  refine wp_block ?_
  obtain ⟨o55, hL, hF⟩ := bnd hF
  refine c_loop _ (fun (s : Int) a w => Ok u m46 ([(b5, Obj.cells [c1, c3].toArray 25 (0, 0))] :: S) w ∧ Env 74 a [(7, c41), (9, c47), (11, (Value.int .i64 s))] ∧ InR .i64 s) (fun (b : (Unit ⊕ Bool)) e a w => (Sum.elim (fun b79 => e = (.exit 0) ∧ Ok u m46 ([(b5, Obj.cells [c1, c3].toArray 25 (0, 0))] :: S) w ∧ Env 74 a []) (fun b80 => e = .ret ∧ calquelaw34_VerifyCheck_R u m0 S b80 a w)) b) ?_ ?_ N _ a w hL ⟨ok, E.keep [7, 9, 11], (show InR .i64 (0) by decide)⟩
  rotate_left
  · intro e a w _ hO
    rcases o55 with o55 | o55
    rotate_left
    · replace hF := elim_r hF
      obtain ⟨rfl, hret⟩ := hO
      refine b_ret ?_
      refine t_ret ?_
      obtain rfl := Option.some.inj hF
      exact fin _ _ hret
    replace hF := elim_l hF
    obtain ⟨rfl, ok, E⟩ := hO
    refine b_hit ?_
    refine t_norm ?_
    refine wp_seq ?_
    refine c_region ?_
    refine l_val E ok (y_assign rfl) rfl rfl fun a E => ?_
    refine wpList_nil ?_
    refine t_norm ?_
    refine wp_ret ?_
    have hret : calquelaw34_VerifyCheck_R u m0 S true a w := ⟨(ok.drop).down hb0 le_m0, E.d, ⟨rv_t E rfl, trivial⟩⟩
    obtain rfl := Option.some.inj hF
    exact fin _ _ hret
  rintro i_57 a w r ⟨ok, E, r58⟩ hF
  replace hF : calquelaw34_VerifyCheck_b1 N r38 r44 i_57 = some r := hF
  unfold calquelaw34_VerifyCheck_b1 at hF
  refine wp_seq ?_
  refine wp_seq ?_
  refine c_region ?_
  refine l_val E ok (y_move rfl) rfl rfl fun a E => ?_
  refine l_val E ok (y_move rfl) rfl rfl fun a E => ?_
  refine l_val E ok (y_lenL sl_46 h42 rfl) rfl rfl fun a E => ?_
  refine l_val E ok (y_lss rfl rfl) rfl rfl fun a E => ?_
  refine wpList_nil ?_
  refine t_norm ?_
  refine c_if E rfl (fun hc59 => ?_) (fun hc59 => ?_)
  rotate_left
  · replace hF := cond_f hc59 hF
    refine wp_exit ?_
    refine t_exit ?_
    obtain rfl := Option.some.inj hF
    exact step_o (by nofun) (sl ⟨rfl, ⟨ok, E.keep []⟩⟩)
  replace hF := cond_t hc59 hF
  refine wp_skip ?_
  refine t_norm ?_
  refine wp_seq ?_
  refine wp_block ?_
  refine wp_seq ?_
  refine c_draw (by kernel_rfl) (by kernel_rfl) ok ?_
  refine q_val E (y_move rfl) rfl rfl fun a E => ?_
  refine q_val E (y_move rfl) rfl rfl fun a E => ?_
  obtain ⟨x60, e61, hF⟩ := bnd hF
  obtain ⟨b62, o63, es64, hl65, rr66, at67, yy68⟩ := idxAt sl_46 h42 e61 (P := Tryd.prog) (X := .tmp 65) (I := .tmp 66) (kd := .i64) (ev_of E rfl) (ev_of E rfl)
  obtain rfl := rr66
  refine q_val E (yy68 _ _) rfl rfl fun a E => ?_
  refine q_val E (y_load one_4 rfl (Holds.ro at67)) rfl rfl fun a E => ?_
  refine q_val E (y_move rfl) rfl rfl fun a E => ?_
  refine q_val E (y_move rfl) rfl rfl fun a E => ?_
  obtain ⟨x69, e70, hF⟩ := bnd hF
  obtain ⟨b71, o72, es73, hl74, rr75, at76, yy77⟩ := idxAt sl_46 h48 e70 (P := Tryd.prog) (X := .tmp 69) (I := .tmp 70) (kd := .i64) (ev_of E rfl) (ev_of E rfl)
  obtain rfl := rr75
  refine q_val E (yy77 _ _) rfl rfl fun a E => ?_
  refine q_val E (y_load one_4 rfl (Holds.ro at76)) rfl rfl fun a E => ?_
  refine q_val E (y_bneq Tryd.underlying4 rfl rfl) rfl rfl fun a E => ?_
  refine wpQuiet_nil ?_
  intro w ok
  refine t_norm ?_
  refine c_if E rfl (fun hc78 => ?_) (fun hc78 => ?_)
  rotate_left
  · replace hF := cond_f hc78 hF
    refine wp_skip ?_
    refine b_norm ?_
    refine t_norm ?_
    refine c_region ?_
    refine l_val E ok (y_move rfl) rfl rfl fun a E => ?_
    refine l_val E ok (y_add rfl rfl (InR.inc r58 (pL_InR h42) hc59)) rfl rfl fun a E => ?_
    refine l_val E ok (y_assign rfl) rfl rfl fun a E => ?_
    refine wpList_nil ?_
    obtain rfl := Option.some.inj hF
    exact step_n ⟨ok, E.keep [7, 9, 11], (InR.inc r58 (pL_InR h42) hc59)⟩
  replace hF := cond_t hc78 hF
  refine wp_seq ?_
  refine c_region ?_
  refine l_val E ok (y_assign rfl) rfl rfl fun a E => ?_
  refine wpList_nil ?_
  refine t_norm ?_
  refine wp_ret ?_
  refine b_ret ?_
  refine t_ret ?_
  have hret : calquelaw34_VerifyCheck_R u m0 S false a w := ⟨(ok.drop).down hb0 le_m0, E.d, ⟨rv_t E rfl, trivial⟩⟩
  obtain rfl := Option.some.inj hF
  exact step_o (by nofun) (sr ⟨rfl, hret⟩)

end Go.Proofs.YtmghnmfefpeelaaDoor
