/- The walks of this part: the model's run of each function yields what the plain function says. Printed by gen8.py. -/
import Derived.Test.YtbaiahglondepaaGreatDoorExt08e
import Derived.Test.YtbaiahglondepaaGreatDoorWalk08a1
import Derived.Test.YtbaiahglondepaaGreatDoorWalk08a2
import Derived.Test.YtbaiahglondepaaGreatDoorWalk08b
import Derived.Test.YtbaiahglondepaaGreatDoorChecked
import Derived.Test.YtbaiahglondepaaGreatDoorShelg
set_option linter.unusedVariables false
namespace Go.Proofs.YtbaiahglondepaaGreatDoor
open Go.X

/-- The table of the powers of ten. -/
def Tab (u : World) : Prop := Lib.TabIs Tryz.prog u "internal/strconv.uint64pow10" .u64 Lib.pow10Tab

theorem eqg_37 : Tryz.prog.eqGuardType Tryz.prog.depth 37 = false := by kernel_rfl
theorem go_10 : goB Tryz.prog 10 = true := by kernel_rfl
theorem go_13 : goB Tryz.prog 13 = true := by kernel_rfl
theorem go_18 : goB Tryz.prog 18 = true := by kernel_rfl
theorem go_20 : goB Tryz.prog 20 = true := by kernel_rfl
theorem go_21 : goB Tryz.prog 21 = true := by kernel_rfl
theorem go_23 : goB Tryz.prog 23 = true := by kernel_rfl
theorem go_35 : goB Tryz.prog 35 = true := by kernel_rfl
theorem go_36 : goB Tryz.prog 36 = true := by kernel_rfl
theorem go_41 : goB Tryz.prog 41 = true := by kernel_rfl
theorem go_42 : goB Tryz.prog 42 = true := by kernel_rfl
theorem go_45 : goB Tryz.prog 45 = true := by kernel_rfl
theorem go_46 : goB Tryz.prog 46 = true := by kernel_rfl
theorem go_47 : goB Tryz.prog 47 = true := by kernel_rfl
theorem go_48 : goB Tryz.prog 48 = true := by kernel_rfl
theorem go_49 : goB Tryz.prog 49 = true := by kernel_rfl
theorem go_60 : goB Tryz.prog 60 = true := by kernel_rfl
theorem go_61 : goB Tryz.prog 61 = true := by kernel_rfl
theorem go_73 : goB Tryz.prog 73 = true := by kernel_rfl
theorem go_9 : goB Tryz.prog 9 = true := by kernel_rfl
theorem sl_85 : SlT Tryz.prog 85 5 1 := SlT.of (by kernel_rfl)
theorem stood_37 : Tryz.prog.stoodInHeld 37 = false := by kernel_rfl
theorem zero_5 : zeroB Tryz.prog 5 = some [(Value.int .u8 0)] := by kernel_rfl

theorem strings_Join_w {u : World} {m0 : Mem} {S : Segs} {w : World} (N : Nat) (vp0_0 : Value) (p0_0 : List (List UInt8)) (hp0_0 : (pL 1 pS) m0 [vp0_0] p0_0) (p1_1 : List UInt8) (lp1_1 : p1_1.length ≤ LIMS) {r : (List UInt8)} (hF : strings_Join N p0_0 p1_1 = some r) (hG : Glob u) (ok : Ok u m0 S w) :
    Calls Tryz.prog 36 [vp0_0, Value.string (bs p1_1)].toArray w fun e w' => (e = .returned (.string (bs r)) ∧ Ok u m0 S w') ∧ r.length ≤ LIMS := lib_Join Tryz.lays156 Tryz.Builder_Extra_156 vp0_0 p0_0 hp0_0 p1_1 hF ok

theorem strconv_ItoaT_w {u : World} {m0 : Mem} {S : Segs} {w : World} (N : Nat) (p0_0 : Int) (rp0_0 : InR .i64 p0_0) {r : (List UInt8)} (hF : strconv_ItoaT N p0_0 = some r) (hG : Glob u) (hT : Tab u) (ok : Ok u m0 S w) :
    Calls Tryz.prog 60 [Value.int .i64 p0_0].toArray w fun e w' => (e = .returned (.string (bs r)) ∧ Ok u m0 S w') ∧ r.length ≤ LIMS := lib_ItoaT Tryz.laysM171 hT p0_0 rp0_0 hF ok

def condition_span_R (u : World) (m0 : Mem) (S : Segs) (r : (List UInt8)) (a : Act) (w : World) : Prop :=
  Ok u m0 S w ∧ a.defers = [] ∧ RVs Tryz.prog a w [.t 2 (.string (bs r))] ∧ r.length ≤ LIMS
set_option maxHeartbeats 4000000 in
set_option maxRecDepth 100000 in
theorem condition_span_w {u : World} {m0 : Mem} {S : Segs} {w : World} (N : Nat) (vs_0 : List Value) (s_0 : Span) (hs_0 : pSpan m0 vs_0 s_0) {r : (List UInt8)} (hF : condition_span N s_0 = some r) (hG : Glob u) (hT : Tab u) (ok : Ok u m0 S w) :
    Calls Tryz.prog 61 [.agg vs_0.toArray].toArray w fun e w' => (e = .returned (.string (bs r)) ∧ Ok u m0 S w') ∧ r.length ≤ LIMS := by
  obtain ⟨rfl, r1, r2⟩ := hs_0
  have hb0 := ok.base
  have le_m0 := Mem.le.refl m0
  unfold condition_span at hF
  have fin : ∀ a w, condition_span_R u m0 S r a w → bodyPost Tryz.prog Tryz.f61 (fun e w' => (e = .returned (.string (bs r)) ∧ Ok u m0 S w') ∧ r.length ≤ LIMS) .ret a w := by
    intro a w h
    obtain ⟨ok, hd, hrv, h0⟩ := h
    exact c_ret2 [.t 2 (.string (bs r))] hd rfl hrv ⟨⟨rfl, ok⟩, h0⟩
  refine enter Tryz.func61 rfl rfl rfl fun a E => ?_
  refine wp_seq ?_
  refine c_region ?_
  refine l_box E ok rfl rfl rfl fun b3 a w E ok => ?_
  refine l_val E ok (y_assign rfl) rfl rfl fun a E => ?_
  refine wpList_nil ?_
  refine t_norm ?_
  refine wp_seq ?_
  refine wp_seq ?_
  refine c_region ?_
  refine l_val E ok (y_fieldAddr fo_37_0 rfl) rfl rfl fun a E => ?_
  refine l_val E ok (y_load one_3 rfl (Holds.own 0 rfl rfl)) rfl rfl fun a E => ?_
  refine l_val E ok (y_fieldAddr fo_37_1 rfl) rfl rfl fun a E => ?_
  refine l_val E ok (y_load one_3 rfl (Holds.own 0 rfl rfl)) rfl rfl fun a E => ?_
  refine l_val E ok (y_eql rfl rfl) rfl rfl fun a E => ?_
  refine wpList_nil ?_
  refine t_norm ?_
  refine c_if E rfl (fun hc4 => ?_) (fun hc4 => ?_)
  · replace hF := cond_t hc4 hF
    refine wp_seq ?_
    refine c_region ?_
    refine l_val E ok (y_fieldAddr fo_37_0 rfl) rfl rfl fun a E => ?_
    refine l_val E ok (y_load one_3 rfl (Holds.own 0 rfl rfl)) rfl rfl fun a E => ?_
    obtain ⟨r5, e6, hF⟩ := bnd hF
    refine l_call E go_60 rfl (strconv_ItoaT_w N s_0.From r1 e6 hG hT ok) rfl rfl ?_
    rintro _ w ⟨⟨rfl, ok⟩, l7⟩
    refine ⟨_, rfl, fun a E => ?_⟩
    refine l_val E ok (y_assign rfl) rfl rfl fun a E => ?_
    refine wpList_nil ?_
    refine t_norm ?_
    refine wp_ret ?_
    refine t_ret ?_
    have hret : condition_span_R u m0 S r5 a w := ⟨ok.drop, E.d, ⟨rv_t E rfl, trivial⟩, l7⟩
    obtain rfl := Option.some.inj hF
    exact fin _ _ hret
  replace hF := cond_f hc4 hF
  refine wp_skip ?_
  refine t_norm ?_
  refine wp_seq ?_
  refine c_draw (by kernel_rfl) (by kernel_rfl) ok ?_
  refine q_val E (y_fieldAddr fo_37_0 rfl) rfl rfl fun a E => ?_
  refine q_val E (y_load one_3 rfl (Holds.own 0 rfl rfl)) rfl rfl fun a E => ?_
  obtain ⟨r8, e9, hF⟩ := bnd hF
  obtain ⟨_, _, ⟨_, _⟩, l10⟩ := Go.X.Calls.get (strconv_ItoaT_w N s_0.From r1 e9 hG hT ok)
  refine q_call E go_60 rfl (fun w ok => (strconv_ItoaT_w N s_0.From r1 e9 hG hT ok).mono (fun _ _ h => h.1)) rfl rfl fun a E => ?_
  obtain ⟨s11, e12, hF⟩ := bnd hF
  refine q_val E (y_cat rfl rfl e12) rfl rfl fun a E => ?_
  refine q_val E (y_fieldAddr fo_37_1 rfl) rfl rfl fun a E => ?_
  refine q_val E (y_load one_3 rfl (Holds.own 0 rfl rfl)) rfl rfl fun a E => ?_
  obtain ⟨r13, e14, hF⟩ := bnd hF
  obtain ⟨_, _, ⟨_, _⟩, l15⟩ := Go.X.Calls.get (strconv_ItoaT_w N s_0.To r2 e14 hG hT ok)
  refine q_call E go_60 rfl (fun w ok => (strconv_ItoaT_w N s_0.To r2 e14 hG hT ok).mono (fun _ _ h => h.1)) rfl rfl fun a E => ?_
  obtain ⟨s16, e17, hF⟩ := bnd hF
  refine q_val E (y_cat rfl rfl e17) rfl rfl fun a E => ?_
  refine q_val E (y_assign rfl) rfl rfl fun a E => ?_
  refine wpQuiet_nil ?_
  intro w ok
  refine t_norm ?_
  refine wp_ret ?_
  have hret : condition_span_R u m0 S s16 a w := ⟨ok.drop, E.d, ⟨rv_t E rfl, trivial⟩, (cat_len e17)⟩
  obtain rfl := Option.some.inj hF
  exact fin _ _ hret

def condition_relation_R (u : World) (m0 : Mem) (S : Segs) (r : (List UInt8)) (a : Act) (w : World) : Prop :=
  Ok u m0 S w ∧ a.defers = [] ∧ RVs Tryz.prog a w [.t 2 (.string (bs r))] ∧ r.length ≤ LIMS
set_option maxHeartbeats 4000000 in
set_option maxRecDepth 100000 in
theorem condition_relation_w {u : World} {m0 : Mem} {S : Segs} {w : World} (N : Nat) (vr_0 : List Value) (r_0 : Relation) (hr_0 : pRelation m0 vr_0 r_0) {r : (List UInt8)} (hF : condition_relation N r_0 = some r) (hG : Glob u) (hT : Tab u) (ok : Ok u m0 S w) :
    Calls Tryz.prog 35 [.agg vr_0.toArray].toArray w fun e w' => (e = .returned (.string (bs r)) ∧ Ok u m0 S w') ∧ r.length ≤ LIMS := by
  obtain ⟨c3, rfl, r1, r2, h4⟩ := hr_0
  have hb0 := ok.base
  have le_m0 := Mem.le.refl m0
  unfold condition_relation at hF
  have fin : ∀ a w, condition_relation_R u m0 S r a w → bodyPost Tryz.prog Tryz.f35 (fun e w' => (e = .returned (.string (bs r)) ∧ Ok u m0 S w') ∧ r.length ≤ LIMS) .ret a w := by
    intro a w h
    obtain ⟨ok, hd, hrv, h0⟩ := h
    exact c_ret2 [.t 2 (.string (bs r))] hd rfl hrv ⟨⟨rfl, ok⟩, h0⟩
  refine enter Tryz.func35 rfl rfl rfl fun a E => ?_
  refine wp_seq ?_
  refine c_region ?_
  refine l_box E ok rfl rfl rfl fun b5 a w E ok => ?_
  refine l_val E ok (y_assign rfl) rfl rfl fun a E => ?_
  refine wpList_nil ?_
  refine t_norm ?_
  refine wp_seq ?_
  refine c_region ?_
  refine l_val E ok (y_fieldAddr fo_33_0 rfl) rfl rfl fun a E => ?_
  refine l_val E ok (y_load one_3 rfl (Holds.own 0 rfl rfl)) rfl rfl fun a E => ?_
  refine l_val E ok (y_fieldAddr fo_33_0 rfl) rfl rfl fun a E => ?_
  refine l_val E ok (y_load one_3 rfl (Holds.own 0 rfl rfl)) rfl rfl fun a E => ?_
  refine l_val E ok (y_addw rfl rfl) rfl rfl fun a E => ?_
  obtain ⟨s6, e7, hF⟩ := bnd hF
  refine l_val E ok (y_sslice Tryz.underlying9 e7 rfl ⟨_, rfl⟩ ⟨_, rfl⟩) rfl rfl fun a E => ?_
  refine l_val E ok (y_assign rfl) rfl rfl fun a E => ?_
  refine wpList_nil ?_
  refine t_norm ?_
  refine wp_seq ?_
  refine wp_seq ?_
  refine c_region ?_
  refine l_val E ok (y_fieldAddr fo_33_1 rfl) rfl rfl fun a E => ?_
  refine l_val E ok (y_load one_3 rfl (Holds.own 0 rfl rfl)) rfl rfl fun a E => ?_
  refine l_val E ok (y_neq rfl rfl) rfl rfl fun a E => ?_
  refine wpList_nil ?_
  refine t_norm ?_
  obtain ⟨o8, hJ, hF⟩ := bnd hF
  refine c_mono (Q' := fun e a w => e = .normal ∧ Ok u m0 ([(b5, Obj.cells [(Value.int .i64 r_0.Operand), (Value.int .i64 r_0.Mod), (Value.bool r_0.Not), c3].toArray 33 (0, 0))] :: S) w ∧ Env 45 a [(1, (Value.pointer (some ⟨b5, 0, none⟩))), (3, (Value.string (bs o8)))] ∧ o8.length ≤ LIMS) ?_ ?_
  · replace hF := hJ
    clear hJ
    refine c_if E rfl (fun hc10 => ?_) (fun hc10 => ?_)
    rotate_left
    · replace hF := cond_f hc10 hF
      refine wp_skip ?_
      obtain rfl := Option.some.inj hF
      exact ⟨rfl, ⟨ok, E.keep [1, 3], (Nat.le_trans (slc_len e7) (show ([32, 110, 105, 118, 119, 102, 116] : List UInt8).length ≤ LIMS by decide))⟩⟩
    replace hF := cond_t hc10 hF
    refine c_region ?_
    refine l_val E ok (y_move rfl) rfl rfl fun a E => ?_
    refine l_val E ok (y_fieldAddr fo_33_1 rfl) rfl rfl fun a E => ?_
    refine l_val E ok (y_load one_3 rfl (Holds.own 0 rfl rfl)) rfl rfl fun a E => ?_
    obtain ⟨r11, e12, hF⟩ := bnd hF
    refine l_call E go_60 rfl (strconv_ItoaT_w N r_0.Mod r2 e12 hG hT ok) rfl rfl ?_
    rintro _ w ⟨⟨rfl, ok⟩, l13⟩
    refine ⟨_, rfl, fun a E => ?_⟩
    obtain ⟨s14, e15, hF⟩ := bnd hF
    refine l_val E ok (y_cat rfl rfl e15) rfl rfl fun a E => ?_
    obtain ⟨s16, e17, hF⟩ := bnd hF
    refine l_val E ok (y_cat rfl rfl e17) rfl rfl fun a E => ?_
    refine l_val E ok (y_assign rfl) rfl rfl fun a E => ?_
    refine wpList_nil ?_
    obtain rfl := Option.some.inj hF
    exact ⟨rfl, ⟨ok, E.keep [1, 3], (cat_len e17)⟩⟩
  clear hJ
  intro e a w hO
  obtain ⟨rfl, ok, E, l18⟩ := hO
  refine t_norm ?_
  refine wp_seq ?_
  refine wp_seq ?_
  refine c_region ?_
  refine l_val E ok (y_fieldAddr fo_33_2 rfl) rfl rfl fun a E => ?_
  refine l_val E ok (y_load one_4 rfl (Holds.own 0 rfl rfl)) rfl rfl fun a E => ?_
  refine wpList_nil ?_
  refine t_norm ?_
  obtain ⟨o19, hJ, hF⟩ := bnd hF
  refine c_mono (Q' := fun e a w => e = .normal ∧ Ok u m0 ([(b5, Obj.cells [(Value.int .i64 r_0.Operand), (Value.int .i64 r_0.Mod), (Value.bool r_0.Not), c3].toArray 33 (0, 0))] :: S) w ∧ Env 45 a [(1, (Value.pointer (some ⟨b5, 0, none⟩))), (3, (Value.string (bs o19)))] ∧ o19.length ≤ LIMS) ?_ ?_
  · replace hF := hJ
    clear hJ
    refine c_if E rfl (fun hc21 => ?_) (fun hc21 => ?_)
    · replace hF := cond_t hc21 hF
      refine c_region ?_
      refine l_val E ok (y_move rfl) rfl rfl fun a E => ?_
      obtain ⟨s22, e23, hF⟩ := bnd hF
      refine l_val E ok (y_cat rfl rfl e23) rfl rfl fun a E => ?_
      refine l_val E ok (y_assign rfl) rfl rfl fun a E => ?_
      refine wpList_nil ?_
      obtain rfl := Option.some.inj hF
      exact ⟨rfl, ⟨ok, E.keep [1, 3], (cat_len e23)⟩⟩
    replace hF := cond_f hc21 hF
    refine c_region ?_
    refine l_val E ok (y_move rfl) rfl rfl fun a E => ?_
    obtain ⟨s24, e25, hF⟩ := bnd hF
    refine l_val E ok (y_cat rfl rfl e25) rfl rfl fun a E => ?_
    refine l_val E ok (y_assign rfl) rfl rfl fun a E => ?_
    refine wpList_nil ?_
    obtain rfl := Option.some.inj hF
    exact ⟨rfl, ⟨ok, E.keep [1, 3], (cat_len e25)⟩⟩
  clear hJ
  intro e a w hO
  obtain ⟨rfl, ok, E, l26⟩ := hO
  refine t_norm ?_
  refine wp_seq ?_
  refine c_region ?_
  refine l_val E ok (y_assign rfl) rfl rfl fun a E => ?_
  refine wpList_nil ?_
  refine t_norm ?_
  refine wp_seq ?_
  refine wp_seq ?_
  refine c_region ?_
  refine l_val E ok (y_fieldAddr fo_33_3 rfl) rfl rfl fun a E => ?_
  refine l_val E ok (y_load one_31 rfl (Holds.own 0 rfl rfl)) rfl rfl fun a E => ?_
  refine l_val E ok (y_lenL sl_31 h4 rfl) rfl rfl fun a E => ?_
  refine l_val E ok (y_move rfl) rfl rfl fun a E => ?_
  refine wpList_nil ?_
  refine t_norm ?_
  refine wp_block ?_
  obtain ⟨M32, ok, h33⟩ := nilrow (e := 9) (k := 1) (R := pS) ok
  obtain ⟨o34, hL, hF⟩ := bnd hF
  refine c_loop _ (fun (s : (List (List UInt8)) × Int) a w => ∃ c35 M36, Ok u m0 (M36 :: [(b5, Obj.cells [(Value.int .i64 r_0.Operand), (Value.int .i64 r_0.Mod), (Value.bool r_0.Not), c3].toArray 33 (0, 0))] :: S) w ∧ Env 45 a [(3, (Value.string (bs o19))), (4, c35), (29, c3), (30, (Value.int .i64 (r_0.Spans.length : Int))), (31, (Value.int .i64 s.2))] ∧ ORow 9 1 pS m0 c35 s.1 M36 ∧ InR .i64 s.2) (fun (b : ((List (List UInt8)))) e a w => e = (.exit 0) ∧ ∃ c82 M83, Ok u m0 (M83 :: [(b5, Obj.cells [(Value.int .i64 r_0.Operand), (Value.int .i64 r_0.Mod), (Value.bool r_0.Not), c3].toArray 33 (0, 0))] :: S) w ∧ Env 45 a [(3, (Value.string (bs o19))), (4, c82)] ∧ ORow 9 1 pS m0 c82 b M83) ?_ ?_ N _ a w hL ⟨(Value.slice none 0 0), M32, ok, E.keep [3, 4, 29, 30, 31], h33, (show InR .i64 (0) by decide)⟩
  rotate_left
  · intro e a w _ hO
    obtain ⟨rfl, c69, M70, ok, E, h71⟩ := hO
    refine b_hit ?_
    refine t_norm ?_
    refine wp_seq ?_
    refine c_region ?_
    refine l_val E ok (y_move rfl) rfl rfl fun a E => ?_
    refine l_val E ok (y_move rfl) rfl rfl fun a E => ?_
    obtain ⟨r77, e78, hF⟩ := bnd hF
    obtain ⟨m72, hle74, ok73, hfz75⟩ := (ok.frs 0 rfl).freeze
    have h76 := ORow.froz mS h71 hle74 hfz75 (by decide)
    refine l_call E go_36 rfl (strings_Join_w N _ o34 h76 ([44]) (show ([44] : List UInt8).length ≤ LIMS by decide) e78 hG ok73) rfl rfl ?_
    rintro _ w ⟨⟨rfl, okz⟩, l79⟩
    replace ok := (Ok.thawAt 0 rfl ok hle74 hfz75 okz)
    refine ⟨_, rfl, fun a E => ?_⟩
    obtain ⟨s80, e81, hF⟩ := bnd hF
    refine l_val E ok (y_cat rfl rfl e81) rfl rfl fun a E => ?_
    refine l_val E ok (y_assign rfl) rfl rfl fun a E => ?_
    refine wpList_nil ?_
    refine t_norm ?_
    refine wp_ret ?_
    have hret : condition_relation_R u m0 S s80 a w := ⟨ok.drop.drop, E.d, ⟨rv_t E rfl, trivial⟩, (cat_len e81)⟩
    obtain rfl := Option.some.inj hF
    exact fin _ _ hret
  rintro ⟨l_39, x_40⟩ a w r ⟨c41, M42, ok, E, h43, r44⟩ hF
  replace hF : condition_relation_b1 N r_0 l_39 x_40 = some r := hF
  unfold condition_relation_b1 at hF
  refine wp_seq ?_
  refine c_region ?_
  refine l_val E ok (y_lss rfl rfl) rfl rfl fun a E => ?_
  refine wpList_nil ?_
  refine t_norm ?_
  refine wp_seq ?_
  refine c_if E rfl (fun hc45 => ?_) (fun hc45 => ?_)
  rotate_left
  · replace hF := cond_f hc45 hF
    refine wp_exit ?_
    refine t_exit ?_
    obtain rfl := Option.some.inj hF
    exact step_o (by nofun) (⟨rfl, ⟨c41, M42, ok, E.keep [3, 4], h43⟩⟩)
  replace hF := cond_t hc45 hF
  refine wp_skip ?_
  refine t_norm ?_
  refine wp_seq ?_
  refine wp_block ?_
  refine wp_seq ?_
  refine c_region ?_
  obtain ⟨x46, e47, hF⟩ := bnd hF
  obtain ⟨b48, o49, es50, hl51, rr52, at53, yy54⟩ := idxAt sl_31 h4 e47 (P := Tryz.prog) (X := .tmp 29) (I := .tmp 31) (kd := .i64) (ev_of E rfl) (ev_of E rfl)
  obtain ⟨rfl, r55, r56⟩ := rr52
  refine l_val E ok (yy54 _ _) rfl rfl fun a E => ?_
  refine l_val E ok (y_loadAgg (cs := [(Value.int .i64 x46.From), (Value.int .i64 x46.To)]) agg_37 rfl rfl (Holds.ro at53)) rfl rfl fun a E => ?_
  refine l_alloc E ok zero_37 rfl rfl fun b57 a w E ok => ?_
  refine l_storeB E ok 0 rfl rfl rfl inf_37 rfl rfl ⟨rfl, rfl, trivial⟩ rfl rfl fun w ok => ?_
  refine wpList_nil ?_
  refine t_norm ?_
  refine c_region ?_
  refine l_val E ok (y_move rfl) rfl rfl fun a E => ?_
  refine l_val E ok (y_loadAgg (cs := [(Value.int .i64 x46.From), (Value.int .i64 x46.To)]) agg_37 rfl rfl (Holds.own 0 rfl rfl)) rfl rfl fun a E => ?_
  obtain ⟨r58, e59, hF⟩ := bnd hF
  refine l_call E go_61 rfl (condition_span_w N _ x46 ⟨rfl, r55, r56⟩ e59 hG hT ok) rfl rfl ?_
  rintro _ w ⟨⟨rfl, ok⟩, l60⟩
  refine ⟨_, rfl, fun a E => ?_⟩
  refine l_slit (R := pS) (xo := [.tmp 37]) (xs := ([r58] : List (List UInt8))) E ok sl_56 zero_9 rfl ⟨⟨_, rfl, rfl, (pS_mk l60)⟩, trivial⟩ rfl rfl rfl rfl fun c61 M62 a w E ok h63 => ?_
  obtain ⟨l64, e65, hF⟩ := bnd hF
  refine l_app (R := pS) E ok 2 mS sl_56 Tryz.underlying56 rfl h43 (SrcOK.ofRow h63 0 rfl ok) e65 ⟨_, zero_9, rfl⟩ rfl rfl rfl rfl fun c66 M67 a w E ok h68 => ?_
  refine l_val E ok (y_assign rfl) rfl rfl fun a E => ?_
  refine wpList_nil ?_
  refine b_norm ?_
  refine t_norm ?_
  refine c_region ?_
  refine l_val E ok (y_add rfl rfl (InR.inc r44 (pL_InR h4) hc45)) rfl rfl fun a E => ?_
  refine l_val E ok (y_move rfl) rfl rfl fun a E => ?_
  refine wpList_nil ?_
  obtain rfl := Option.some.inj hF
  exact step_n ⟨c66, M67, (ok.pk 4 [2, 3] rfl (by decide)), E.keep [3, 4, 29, 30, 31], h68, (InR.inc r44 (pL_InR h4) hc45)⟩

def condition_Print_R (u : World) (m0 : Mem) (S : Segs) (r : (List UInt8) × Int) (a : Act) (w : World) : Prop :=
  Ok u m0 S w ∧ a.defers = [] ∧ RVs Tryz.prog a w [.t 2 (.string (bs r.1)), .t 3 (.int .i64 r.2)] ∧ r.1.length ≤ LIMS ∧ InR .i64 r.2
set_option maxHeartbeats 4000000 in
set_option maxRecDepth 100000 in
theorem condition_Print_w {u : World} {m0 : Mem} {S : Segs} {w : World} (N : Nat) (vc_0 : Value) (c_0 : List (List (Relation))) (hc_0 : (pL 1 (pL 4 pRelation)) m0 [vc_0] c_0) {r : (List UInt8) × Int} (hF : condition_Print N c_0 = some r) (hG : Glob u) (hT : Tab u) (ok : Ok u m0 S w) :
    Calls Tryz.prog 18 [vc_0].toArray w fun e w' => (e = .returned (.tuple [(.string (bs r.1)), (.int .i64 r.2)].toArray) ∧ Ok u m0 S w') ∧ r.1.length ≤ LIMS ∧ InR .i64 r.2 := by
  have hb0 := ok.base
  have le_m0 := Mem.le.refl m0
  unfold condition_Print at hF
  have fin : ∀ a w, condition_Print_R u m0 S r a w → bodyPost Tryz.prog Tryz.f18 (fun e w' => (e = .returned (.tuple [(.string (bs r.1)), (.int .i64 r.2)].toArray) ∧ Ok u m0 S w') ∧ r.1.length ≤ LIMS ∧ InR .i64 r.2) .ret a w := by
    intro a w h
    obtain ⟨ok, hd, hrv, h0, h1⟩ := h
    exact c_ret2 [.t 2 (.string (bs r.1)), .t 3 (.int .i64 r.2)] hd rfl hrv ⟨⟨rfl, ok⟩, h0, h1⟩
  refine enter Tryz.func18 rfl rfl rfl fun a E => ?_
  refine wp_seq ?_
  refine c_region ?_
  refine l_val E ok (y_assign rfl) rfl rfl fun a E => ?_
  refine l_val E ok (y_assign rfl) rfl rfl fun a E => ?_
  refine wpList_nil ?_
  refine t_norm ?_
  refine wp_seq ?_
  refine wp_seq ?_
  refine c_region ?_
  refine l_val E ok (y_move rfl) rfl rfl fun a E => ?_
  obtain ⟨r1, e2, hF⟩ := bnd hF
  refine l_call E go_22 rfl (condition_Valid_w N _ c_0 hc_0 e2 hG ok) rfl rfl ?_
  rintro _ w ⟨rfl, ok⟩
  refine ⟨_, rfl, fun a E => ?_⟩
  refine l_val E ok (y_not rfl) rfl rfl fun a E => ?_
  refine wpList_nil ?_
  refine t_norm ?_
  refine c_if E rfl (fun hc3 => ?_) (fun hc3 => ?_)
  · replace hF := cond_t hc3 hF
    refine wp_seq ?_
    refine c_region ?_
    refine l_val E ok (y_assign rfl) rfl rfl fun a E => ?_
    refine l_val E ok (y_assign rfl) rfl rfl fun a E => ?_
    refine wpList_nil ?_
    refine t_norm ?_
    refine wp_ret ?_
    refine t_ret ?_
    have hret : condition_Print_R u m0 S ([], 1) a w := ⟨ok, E.d, ⟨rv_t E rfl, rv_t E rfl, trivial⟩, (show ([] : List UInt8).length ≤ LIMS by decide), (show InR .i64 (1) by decide)⟩
    obtain rfl := Option.some.inj hF
    exact fin _ _ hret
  replace hF := cond_f hc3 hF
  refine wp_skip ?_
  refine t_norm ?_
  refine wp_seq ?_
  refine c_region ?_
  refine l_val E ok (y_assign rfl) rfl rfl fun a E => ?_
  refine wpList_nil ?_
  refine t_norm ?_
  refine wp_seq ?_
  refine wp_seq ?_
  refine c_region ?_
  refine l_val E ok (y_move rfl) rfl rfl fun a E => ?_
  refine l_val E ok (y_lenL sl_23 hc_0 rfl) rfl rfl fun a E => ?_
  refine l_val E ok (y_move rfl) rfl rfl fun a E => ?_
  refine wpList_nil ?_
  refine t_norm ?_
  refine wp_block ?_
  obtain ⟨M9, ok, h10⟩ := nilrow (e := 9) (k := 1) (R := pS) ok
  obtain ⟨o11, hL, hF⟩ := bnd hF
  refine c_loop _ (fun (s : (List (List UInt8)) × Int) a w => ∃ c12 M13, Ok u m0 (M13 :: S) w ∧ Env 39 a [(4, c12), (13, vc_0), (14, (Value.int .i64 (c_0.length : Int))), (15, (Value.int .i64 s.2))] ∧ ORow 9 1 pS m0 c12 s.1 M13 ∧ InR .i64 s.2) (fun (b : ((List (List UInt8)))) e a w => e = (.exit 0) ∧ ∃ c111 M112, Ok u m0 (M112 :: S) w ∧ Env 39 a [(4, c111)] ∧ ORow 9 1 pS m0 c111 b M112) ?_ ?_ N _ a w hL ⟨(Value.slice none 0 0), M9, ok, E.keep [4, 13, 14, 15], h10, (show InR .i64 (0) by decide)⟩
  rotate_left
  · intro e a w _ hO
    obtain ⟨rfl, c100, M101, ok, E, h102⟩ := hO
    refine b_hit ?_
    refine t_norm ?_
    refine wp_seq ?_
    refine c_region ?_
    refine l_val E ok (y_move rfl) rfl rfl fun a E => ?_
    obtain ⟨r108, e109, hF⟩ := bnd hF
    obtain ⟨m103, hle105, ok104, hfz106⟩ := (ok.frs 0 rfl).freeze
    have h107 := ORow.froz mS h102 hle105 hfz106 (by decide)
    refine l_call E go_36 rfl (strings_Join_w N _ o11 h107 ([32, 111, 114, 32]) (show ([32, 111, 114, 32] : List UInt8).length ≤ LIMS by decide) e109 hG ok104) rfl rfl ?_
    rintro _ w ⟨⟨rfl, okz⟩, l110⟩
    replace ok := (Ok.thawAt 0 rfl ok hle105 hfz106 okz)
    refine ⟨_, rfl, fun a E => ?_⟩
    refine l_val E ok (y_assign rfl) rfl rfl fun a E => ?_
    refine l_val E ok (y_assign rfl) rfl rfl fun a E => ?_
    refine wpList_nil ?_
    refine t_norm ?_
    refine wp_ret ?_
    have hret : condition_Print_R u m0 S (r108, 0) a w := ⟨ok.drop, E.d, ⟨rv_t E rfl, rv_t E rfl, trivial⟩, l110, (show InR .i64 (0) by decide)⟩
    obtain rfl := Option.some.inj hF
    exact fin _ _ hret
  rintro ⟨lists_16, x_17⟩ a w r ⟨c18, M19, ok, E, h20, r21⟩ hF
  replace hF : condition_Print_b1 N c_0 lists_16 x_17 = some r := hF
  unfold condition_Print_b1 at hF
  refine wp_seq ?_
  refine c_region ?_
  refine l_val E ok (y_lss rfl rfl) rfl rfl fun a E => ?_
  refine wpList_nil ?_
  refine t_norm ?_
  refine wp_seq ?_
  refine c_if E rfl (fun hc22 => ?_) (fun hc22 => ?_)
  rotate_left
  · replace hF := cond_f hc22 hF
    refine wp_exit ?_
    refine t_exit ?_
    obtain rfl := Option.some.inj hF
    exact step_o (by nofun) (⟨rfl, ⟨c18, M19, ok, E.keep [4], h20⟩⟩)
  replace hF := cond_t hc22 hF
  refine wp_skip ?_
  refine t_norm ?_
  refine wp_seq ?_
  refine wp_block ?_
  refine wp_seq ?_
  refine c_region ?_
  obtain ⟨x23, e24, hF⟩ := bnd hF
  obtain ⟨b25, o26, es27, hl28, rr29, at30, yy31⟩ := idxAt sl_23 hc_0 e24 (P := Tryz.prog) (X := .tmp 13) (I := .tmp 15) (kd := .i64) (ev_of E rfl) (ev_of E rfl)
  obtain ⟨c32, rfl, h33⟩ := pL_cell rr29
  refine l_val E ok (yy31 _ _) rfl rfl fun a E => ?_
  refine l_val E ok (y_load one_34 rfl (Holds.ro at30)) rfl rfl fun a E => ?_
  refine l_val E ok (y_assign rfl) rfl rfl fun a E => ?_
  refine wpList_nil ?_
  refine t_norm ?_
  refine wp_seq ?_
  refine c_region ?_
  refine l_val E ok (y_assign rfl) rfl rfl fun a E => ?_
  refine wpList_nil ?_
  refine t_norm ?_
  refine wp_seq ?_
  refine wp_seq ?_
  refine c_region ?_
  refine l_val E ok (y_move rfl) rfl rfl fun a E => ?_
  refine l_val E ok (y_lenL sl_34 h33 rfl) rfl rfl fun a E => ?_
  refine l_val E ok (y_move rfl) rfl rfl fun a E => ?_
  refine wpList_nil ?_
  refine t_norm ?_
  refine wp_block ?_
  obtain ⟨M39, ok, h40⟩ := nilrow (e := 9) (k := 1) (R := pS) ok
  obtain ⟨o41, hL, hF⟩ := bnd hF
  refine c_loop _ (fun (s : (List (List UInt8)) × Int) a w => ∃ c42 M43, Ok u m0 (M43 :: M19 :: S) w ∧ Env 39 a [(4, c18), (7, c42), (13, vc_0), (14, (Value.int .i64 (c_0.length : Int))), (15, (Value.int .i64 x_17)), (19, c32), (20, (Value.int .i64 (x23.length : Int))), (21, (Value.int .i64 s.2))] ∧ ORow 9 1 pS m0 c42 s.1 M43 ∧ InR .i64 s.2) (fun (b : ((List (List UInt8)))) e a w => e = (.exit 2) ∧ ∃ c97 M98, Ok u m0 (M98 :: M19 :: S) w ∧ Env 39 a [(4, c18), (7, c97), (13, vc_0), (14, (Value.int .i64 (c_0.length : Int))), (15, (Value.int .i64 x_17))] ∧ ORow 9 1 pS m0 c97 b M98) ?_ ?_ N _ a w hL ⟨(Value.slice none 0 0), M39, ok, E.keep [4, 7, 13, 14, 15, 19, 20, 21], h40, (show InR .i64 (0) by decide)⟩
  rotate_left
  · intro e a w _ hO
    obtain ⟨rfl, c78, M79, ok, E, h80⟩ := hO
    refine b_hit ?_
    refine t_norm ?_
    refine c_region ?_
    refine l_val E ok (y_move rfl) rfl rfl fun a E => ?_
    refine l_val E ok (y_move rfl) rfl rfl fun a E => ?_
    obtain ⟨r86, e87, hF⟩ := bnd hF
    obtain ⟨m81, hle83, ok82, hfz84⟩ := (ok.frs 0 rfl).freeze
    have h85 := ORow.froz mS h80 hle83 hfz84 (by decide)
    refine l_call E go_36 rfl (strings_Join_w N _ o41 h85 ([32, 97, 110, 100, 32]) (show ([32, 97, 110, 100, 32] : List UInt8).length ≤ LIMS by decide) e87 hG ok82) rfl rfl ?_
    rintro _ w ⟨⟨rfl, okz⟩, l88⟩
    replace ok := (Ok.thawAt 0 rfl ok hle83 hfz84 okz)
    refine ⟨_, rfl, fun a E => ?_⟩
    refine l_slit (R := pS) (xo := [.tmp 33]) (xs := ([r86] : List (List UInt8))) E ok sl_56 zero_9 rfl ⟨⟨_, rfl, rfl, (pS_mk l88)⟩, trivial⟩ rfl rfl rfl rfl fun c89 M90 a w E ok h91 => ?_
    obtain ⟨l92, e93, hF⟩ := bnd hF
    refine l_app (R := pS) E ok 2 mS sl_56 Tryz.underlying56 rfl h20 (SrcOK.ofRow h91 0 rfl ok) e93 ⟨_, zero_9, rfl⟩ rfl rfl rfl rfl fun c94 M95 a w E ok h96 => ?_
    refine l_val E ok (y_assign rfl) rfl rfl fun a E => ?_
    refine wpList_nil ?_
    refine b_norm ?_
    refine t_norm ?_
    refine c_region ?_
    refine l_val E ok (y_add rfl rfl (InR.inc r21 (pL_InR hc_0) hc22)) rfl rfl fun a E => ?_
    refine l_val E ok (y_move rfl) rfl rfl fun a E => ?_
    refine wpList_nil ?_
    obtain rfl := Option.some.inj hF
    exact step_n ⟨c94, M95, (ok.pk 3 [2] rfl (by decide)), E.keep [4, 13, 14, 15], h96, (InR.inc r21 (pL_InR hc_0) hc22)⟩
  rintro ⟨l_46, x_47⟩ a w r ⟨c48, M49, ok, E, h50, r51⟩ hF
  replace hF : condition_Print_b2 N x23 l_46 x_47 = some r := hF
  unfold condition_Print_b2 at hF
  refine wp_seq ?_
  refine c_region ?_
  refine l_val E ok (y_lss rfl rfl) rfl rfl fun a E => ?_
  refine wpList_nil ?_
  refine t_norm ?_
  refine wp_seq ?_
  refine c_if E rfl (fun hc52 => ?_) (fun hc52 => ?_)
  rotate_left
  · replace hF := cond_f hc52 hF
    refine wp_exit ?_
    refine t_exit ?_
    obtain rfl := Option.some.inj hF
    exact step_o (by nofun) (⟨rfl, ⟨c48, M49, ok, E.keep [4, 7, 13, 14, 15], h50⟩⟩)
  replace hF := cond_t hc52 hF
  refine wp_skip ?_
  refine t_norm ?_
  refine wp_seq ?_
  refine wp_block ?_
  refine wp_seq ?_
  refine c_region ?_
  obtain ⟨x53, e54, hF⟩ := bnd hF
  obtain ⟨b55, o56, es57, hl58, rr59, at60, yy61⟩ := idxAt sl_34 h33 e54 (P := Tryz.prog) (X := .tmp 19) (I := .tmp 21) (kd := .i64) (ev_of E rfl) (ev_of E rfl)
  obtain ⟨c64, rfl, r62, r63, h65⟩ := rr59
  refine l_val E ok (yy61 _ _) rfl rfl fun a E => ?_
  refine l_val E ok (y_loadAgg (cs := [(Value.int .i64 x53.Operand), (Value.int .i64 x53.Mod), (Value.bool x53.Not), c64]) agg_33 rfl rfl (Holds.ro at60)) rfl rfl fun a E => ?_
  refine l_alloc E ok zero_33 rfl rfl fun b66 a w E ok => ?_
  refine l_storeB E ok 0 rfl rfl rfl inf_33 rfl rfl ⟨rfl, rfl, rfl, (pL_one h65), trivial⟩ rfl rfl fun w ok => ?_
  refine wpList_nil ?_
  refine t_norm ?_
  refine c_region ?_
  refine l_val E ok (y_move rfl) rfl rfl fun a E => ?_
  refine l_val E ok (y_loadAgg (cs := [(Value.int .i64 x53.Operand), (Value.int .i64 x53.Mod), (Value.bool x53.Not), c64]) agg_33 rfl rfl (Holds.own 0 rfl rfl)) rfl rfl fun a E => ?_
  obtain ⟨r67, e68, hF⟩ := bnd hF
  refine l_call E go_35 rfl (condition_relation_w N _ x53 ⟨_, rfl, r62, r63, h65⟩ e68 hG hT ok) rfl rfl ?_
  rintro _ w ⟨⟨rfl, ok⟩, l69⟩
  refine ⟨_, rfl, fun a E => ?_⟩
  refine l_slit (R := pS) (xo := [.tmp 27]) (xs := ([r67] : List (List UInt8))) E ok sl_56 zero_9 rfl ⟨⟨_, rfl, rfl, (pS_mk l69)⟩, trivial⟩ rfl rfl rfl rfl fun c70 M71 a w E ok h72 => ?_
  obtain ⟨l73, e74, hF⟩ := bnd hF
  refine l_app (R := pS) E ok 2 mS sl_56 Tryz.underlying56 rfl h50 (SrcOK.ofRow h72 0 rfl ok) e74 ⟨_, zero_9, rfl⟩ rfl rfl rfl rfl fun c75 M76 a w E ok h77 => ?_
  refine l_val E ok (y_assign rfl) rfl rfl fun a E => ?_
  refine wpList_nil ?_
  refine b_norm ?_
  refine t_norm ?_
  refine c_region ?_
  refine l_val E ok (y_add rfl rfl (InR.inc r51 (pL_InR h33) hc52)) rfl rfl fun a E => ?_
  refine l_val E ok (y_move rfl) rfl rfl fun a E => ?_
  refine wpList_nil ?_
  obtain rfl := Option.some.inj hF
  exact step_n ⟨c75, M76, (ok.pk 4 [2, 3] rfl (by decide)), E.keep [4, 7, 13, 14, 15, 19, 20, 21], h77, (InR.inc r51 (pL_InR h33) hc52)⟩

def calqueref08_equal_R (u : World) (m0 : Mem) (S : Segs) (r : Bool) (a : Act) (w : World) : Prop :=
  Ok u m0 S w ∧ a.defers = [] ∧ RVs Tryz.prog a w [.t 4 (.bool r)]
set_option maxHeartbeats 4000000 in
set_option maxRecDepth 100000 in
theorem calqueref08_equal_w {u : World} {m0 : Mem} {S : Segs} {w : World} (N : Nat) (va_0 : List Value) (a_0 : Relation) (ha_0 : pRelation m0 va_0 a_0) (vb_1 : List Value) (b_1 : Relation) (hb_1 : pRelation m0 vb_1 b_1) {r : Bool} (hF : calqueref08_equal N a_0 b_1 = some r) (hG : Glob u) (ok : Ok u m0 S w) :
    Calls Tryz.prog 41 [.agg va_0.toArray, .agg vb_1.toArray].toArray w fun e w' => (e = .returned (.bool r) ∧ Ok u m0 S w') := by
  obtain ⟨c3, rfl, r1, r2, h4⟩ := ha_0
  obtain ⟨c7, rfl, r5, r6, h8⟩ := hb_1
  have hb0 := ok.base
  have le_m0 := Mem.le.refl m0
  unfold calqueref08_equal at hF
  have fin : ∀ a w, calqueref08_equal_R u m0 S r a w → bodyPost Tryz.prog Tryz.f41 (fun e w' => (e = .returned (.bool r) ∧ Ok u m0 S w')) .ret a w := by
    intro a w h
    obtain ⟨ok, hd, hrv⟩ := h
    exact c_ret2 [.t 4 (.bool r)] hd rfl hrv ⟨rfl, ok⟩
  refine enter Tryz.func41 rfl rfl rfl fun a E => ?_
  refine wp_seq ?_
  refine c_region ?_
  refine l_box E ok rfl rfl rfl fun b9 a w E ok => ?_
  refine l_box E ok rfl rfl rfl fun b10 a w E ok => ?_
  refine l_val E ok (y_assign rfl) rfl rfl fun a E => ?_
  refine wpList_nil ?_
  refine t_norm ?_
  refine wp_seq ?_
  refine wp_seq ?_
  refine c_region ?_
  refine l_val E ok (y_fieldAddr fo_33_0 rfl) rfl rfl fun a E => ?_
  refine l_val E ok (y_load one_3 rfl (Holds.own 1 rfl rfl)) rfl rfl fun a E => ?_
  refine l_val E ok (y_fieldAddr fo_33_0 rfl) rfl rfl fun a E => ?_
  refine l_val E ok (y_load one_3 rfl (Holds.own 0 rfl rfl)) rfl rfl fun a E => ?_
  refine l_val E ok (y_neq rfl rfl) rfl rfl fun a E => ?_
  refine l_val E ok (y_move rfl) rfl rfl fun a E => ?_
  refine bsplit (a_0.Operand != b_1.Operand) (fun hc11 => ?_) (fun hc11 => ?_)
  · replace hF := cond_t hc11 hF
    replace E := E.upd 11 hc11 rfl
    refine l_skip E rfl rfl fun a E => ?_
    refine l_skip E rfl rfl fun a E => ?_
    refine l_skip E rfl rfl fun a E => ?_
    refine l_skip E rfl rfl fun a E => ?_
    refine l_skip E rfl rfl fun a E => ?_
    refine l_val E ok (y_pickT rfl rfl) rfl rfl fun a E => ?_
    refine l_val E ok (y_move rfl) rfl rfl fun a E => ?_
    refine l_skip E rfl rfl fun a E => ?_
    refine l_skip E rfl rfl fun a E => ?_
    refine l_skip E rfl rfl fun a E => ?_
    refine l_skip E rfl rfl fun a E => ?_
    refine l_skip E rfl rfl fun a E => ?_
    refine l_val E ok (y_pickT rfl rfl) rfl rfl fun a E => ?_
    refine l_val E ok (y_move rfl) rfl rfl fun a E => ?_
    refine l_skip E rfl rfl fun a E => ?_
    refine l_skip E rfl rfl fun a E => ?_
    refine l_skip E rfl rfl fun a E => ?_
    refine l_skip E rfl rfl fun a E => ?_
    refine l_skip E rfl rfl fun a E => ?_
    refine l_skip E rfl rfl fun a E => ?_
    refine l_skip E rfl rfl fun a E => ?_
    refine l_val E ok (y_pickT rfl rfl) rfl rfl fun a E => ?_
    refine wpList_nil ?_
    refine t_norm ?_
    refine c_if E rfl (fun _ => ?_) (fun h => by cases h)
    refine wp_seq ?_
    refine c_region ?_
    refine l_val E ok (y_assign rfl) rfl rfl fun a E => ?_
    refine wpList_nil ?_
    refine t_norm ?_
    refine wp_ret ?_
    refine t_ret ?_
    have hret : calqueref08_equal_R u m0 S false a w := ⟨ok.drop.drop, E.d, ⟨rv_t E rfl, trivial⟩⟩
    obtain rfl := Option.some.inj hF
    exact fin _ _ hret
  replace hF := cond_f hc11 hF
  replace E := E.upd 11 hc11 rfl
  refine l_val E ok (y_fieldAddr fo_33_1 rfl) rfl rfl fun a E => ?_
  refine l_val E ok (y_load one_3 rfl (Holds.own 1 rfl rfl)) rfl rfl fun a E => ?_
  refine l_val E ok (y_fieldAddr fo_33_1 rfl) rfl rfl fun a E => ?_
  refine l_val E ok (y_load one_3 rfl (Holds.own 0 rfl rfl)) rfl rfl fun a E => ?_
  refine l_val E ok (y_neq rfl rfl) rfl rfl fun a E => ?_
  refine l_val E ok (y_pickF rfl rfl) rfl rfl fun a E => ?_
  refine l_val E ok (y_move rfl) rfl rfl fun a E => ?_
  refine bsplit (a_0.Mod != b_1.Mod) (fun hc12 => ?_) (fun hc12 => ?_)
  · replace hF := cond_t hc12 hF
    replace E := E.upd 18 hc12 rfl
    refine l_skip E rfl rfl fun a E => ?_
    refine l_skip E rfl rfl fun a E => ?_
    refine l_skip E rfl rfl fun a E => ?_
    refine l_skip E rfl rfl fun a E => ?_
    refine l_skip E rfl rfl fun a E => ?_
    refine l_val E ok (y_pickT rfl rfl) rfl rfl fun a E => ?_
    refine l_val E ok (y_move rfl) rfl rfl fun a E => ?_
    refine l_skip E rfl rfl fun a E => ?_
    refine l_skip E rfl rfl fun a E => ?_
    refine l_skip E rfl rfl fun a E => ?_
    refine l_skip E rfl rfl fun a E => ?_
    refine l_skip E rfl rfl fun a E => ?_
    refine l_skip E rfl rfl fun a E => ?_
    refine l_skip E rfl rfl fun a E => ?_
    refine l_val E ok (y_pickT rfl rfl) rfl rfl fun a E => ?_
    refine wpList_nil ?_
    refine t_norm ?_
    refine c_if E rfl (fun _ => ?_) (fun h => by cases h)
    refine wp_seq ?_
    refine c_region ?_
    refine l_val E ok (y_assign rfl) rfl rfl fun a E => ?_
    refine wpList_nil ?_
    refine t_norm ?_
    refine wp_ret ?_
    refine t_ret ?_
    have hret : calqueref08_equal_R u m0 S false a w := ⟨ok.drop.drop, E.d, ⟨rv_t E rfl, trivial⟩⟩
    obtain rfl := Option.some.inj hF
    exact fin _ _ hret
  replace hF := cond_f hc12 hF
  replace E := E.upd 18 hc12 rfl
  refine l_val E ok (y_fieldAddr fo_33_2 rfl) rfl rfl fun a E => ?_
  refine l_val E ok (y_load one_4 rfl (Holds.own 1 rfl rfl)) rfl rfl fun a E => ?_
  refine l_val E ok (y_fieldAddr fo_33_2 rfl) rfl rfl fun a E => ?_
  refine l_val E ok (y_load one_4 rfl (Holds.own 0 rfl rfl)) rfl rfl fun a E => ?_
  refine l_val E ok (y_bneq Tryz.underlying4 rfl rfl) rfl rfl fun a E => ?_
  refine l_val E ok (y_pickF rfl rfl) rfl rfl fun a E => ?_
  refine l_val E ok (y_move rfl) rfl rfl fun a E => ?_
  refine bsplit (a_0.Not != b_1.Not) (fun hc13 => ?_) (fun hc13 => ?_)
  · replace hF := cond_t hc13 hF
    replace E := E.upd 25 hc13 rfl
    refine l_skip E rfl rfl fun a E => ?_
    refine l_skip E rfl rfl fun a E => ?_
    refine l_skip E rfl rfl fun a E => ?_
    refine l_skip E rfl rfl fun a E => ?_
    refine l_skip E rfl rfl fun a E => ?_
    refine l_skip E rfl rfl fun a E => ?_
    refine l_skip E rfl rfl fun a E => ?_
    refine l_val E ok (y_pickT rfl rfl) rfl rfl fun a E => ?_
    refine wpList_nil ?_
    refine t_norm ?_
    refine c_if E rfl (fun _ => ?_) (fun h => by cases h)
    refine wp_seq ?_
    refine c_region ?_
    refine l_val E ok (y_assign rfl) rfl rfl fun a E => ?_
    refine wpList_nil ?_
    refine t_norm ?_
    refine wp_ret ?_
    refine t_ret ?_
    have hret : calqueref08_equal_R u m0 S false a w := ⟨ok.drop.drop, E.d, ⟨rv_t E rfl, trivial⟩⟩
    obtain rfl := Option.some.inj hF
    exact fin _ _ hret
  replace hF := cond_f hc13 hF
  replace E := E.upd 25 hc13 rfl
  refine l_val E ok (y_fieldAddr fo_33_3 rfl) rfl rfl fun a E => ?_
  refine l_val E ok (y_load one_31 rfl (Holds.own 1 rfl rfl)) rfl rfl fun a E => ?_
  refine l_val E ok (y_lenL sl_31 h4 rfl) rfl rfl fun a E => ?_
  refine l_val E ok (y_fieldAddr fo_33_3 rfl) rfl rfl fun a E => ?_
  refine l_val E ok (y_load one_31 rfl (Holds.own 0 rfl rfl)) rfl rfl fun a E => ?_
  refine l_val E ok (y_lenL sl_31 h8 rfl) rfl rfl fun a E => ?_
  refine l_val E ok (y_neq rfl rfl) rfl rfl fun a E => ?_
  refine l_val E ok (y_pickF rfl rfl) rfl rfl fun a E => ?_
  refine wpList_nil ?_
  refine t_norm ?_
  refine c_if E rfl (fun hc14 => ?_) (fun hc14 => ?_)
  · replace hF := cond_t hc14 hF
    refine wp_seq ?_
    refine c_region ?_
    refine l_val E ok (y_assign rfl) rfl rfl fun a E => ?_
    refine wpList_nil ?_
    refine t_norm ?_
    refine wp_ret ?_
    refine t_ret ?_
    have hret : calqueref08_equal_R u m0 S false a w := ⟨ok.drop.drop, E.d, ⟨rv_t E rfl, trivial⟩⟩
    obtain rfl := Option.some.inj hF
    exact fin _ _ hret
  replace hF := cond_f hc14 hF
  refine wp_skip ?_
  refine t_norm ?_
  refine wp_seq ?_
  refine wp_seq ?_
  refine c_region ?_
  refine l_val E ok (y_assign rfl) rfl rfl fun a E => ?_
  refine wpList_nil ?_
  refine t_norm ?_
  refine wp_block ?_
  obtain ⟨o16, hL, hF⟩ := bnd hF
  refine c_loop _ (fun (s : Int) a w => Ok u m0 ([(b10, Obj.cells [(Value.int .i64 b_1.Operand), (Value.int .i64 b_1.Mod), (Value.bool b_1.Not), c7].toArray 33 (0, 0))] :: [(b9, Obj.cells [(Value.int .i64 a_0.Operand), (Value.int .i64 a_0.Mod), (Value.bool a_0.Not), c3].toArray 33 (0, 0))] :: S) w ∧ Env 52 a [(2, (Value.pointer (some ⟨b9, 0, none⟩))), (3, (Value.pointer (some ⟨b10, 0, none⟩))), (5, (Value.int .i64 s))] ∧ InR .i64 s) (fun (b : (Unit ⊕ Bool)) e a w => (Sum.elim (fun b44 => e = (.exit 0) ∧ Ok u m0 ([(b10, Obj.cells [(Value.int .i64 b_1.Operand), (Value.int .i64 b_1.Mod), (Value.bool b_1.Not), c7].toArray 33 (0, 0))] :: [(b9, Obj.cells [(Value.int .i64 a_0.Operand), (Value.int .i64 a_0.Mod), (Value.bool a_0.Not), c3].toArray 33 (0, 0))] :: S) w ∧ Env 52 a []) (fun b45 => e = .ret ∧ calqueref08_equal_R u m0 S b45 a w)) b) ?_ ?_ N _ a w hL ⟨ok, E.keep [2, 3, 5], (show InR .i64 (0) by decide)⟩
  rotate_left
  · intro e a w _ hO
    rcases o16 with o16 | o16
    rotate_left
    · replace hF := elim_r hF
      obtain ⟨rfl, hret⟩ := hO
      refine b_ret ?_
      refine t_ret ?_
      obtain rfl := Option.some.inj hF
      exact fin _ _ hret
    replace hF := elim_l hF
    obtain ⟨rfl, ok, E⟩ := hO
    refine b_hit ?_
    refine t_norm ?_
    refine wp_seq ?_
    refine c_region ?_
    refine l_val E ok (y_assign rfl) rfl rfl fun a E => ?_
    refine wpList_nil ?_
    refine t_norm ?_
    refine wp_ret ?_
    have hret : calqueref08_equal_R u m0 S true a w := ⟨ok.drop.drop, E.d, ⟨rv_t E rfl, trivial⟩⟩
    obtain rfl := Option.some.inj hF
    exact fin _ _ hret
  rintro i_18 a w r ⟨ok, E, r19⟩ hF
  replace hF : calqueref08_equal_b1 N a_0 b_1 i_18 = some r := hF
  unfold calqueref08_equal_b1 at hF
  refine wp_seq ?_
  refine wp_seq ?_
  refine c_region ?_
  refine l_val E ok (y_move rfl) rfl rfl fun a E => ?_
  refine l_val E ok (y_fieldAddr fo_33_3 rfl) rfl rfl fun a E => ?_
  refine l_val E ok (y_load one_31 rfl (Holds.own 1 rfl rfl)) rfl rfl fun a E => ?_
  refine l_val E ok (y_lenL sl_31 h4 rfl) rfl rfl fun a E => ?_
  refine l_val E ok (y_lss rfl rfl) rfl rfl fun a E => ?_
  refine wpList_nil ?_
  refine t_norm ?_
  refine c_if E rfl (fun hc20 => ?_) (fun hc20 => ?_)
  rotate_left
  · replace hF := cond_f hc20 hF
    refine wp_exit ?_
    refine t_exit ?_
    obtain rfl := Option.some.inj hF
    exact step_o (by nofun) (sl ⟨rfl, ⟨ok, E.keep []⟩⟩)
  replace hF := cond_t hc20 hF
  refine wp_skip ?_
  refine t_norm ?_
  refine wp_seq ?_
  refine wp_block ?_
  refine wp_seq ?_
  refine c_draw (by kernel_rfl) (by kernel_rfl) ok ?_
  refine q_val E (y_fieldAddr fo_33_3 rfl) rfl rfl fun a E => ?_
  refine q_val E (y_load one_31 rfl (Holds.own 1 rfl rfl)) rfl rfl fun a E => ?_
  refine q_val E (y_move rfl) rfl rfl fun a E => ?_
  obtain ⟨x21, e22, hF⟩ := bnd hF
  obtain ⟨b23, o24, es25, hl26, rr27, at28, yy29⟩ := idxAt sl_31 h4 e22 (P := Tryz.prog) (X := .tmp 42) (I := .tmp 43) (kd := .i64) (ev_of E rfl) (ev_of E rfl)
  obtain ⟨rfl, r30, r31⟩ := rr27
  refine q_val E (yy29 _ _) rfl rfl fun a E => ?_
  refine q_val E (y_loadAgg (cs := [(Value.int .i64 x21.From), (Value.int .i64 x21.To)]) agg_37 rfl rfl (Holds.ro at28)) rfl rfl fun a E => ?_
  refine q_val E (y_fieldAddr fo_33_3 rfl) rfl rfl fun a E => ?_
  refine q_val E (y_load one_31 rfl (Holds.own 0 rfl rfl)) rfl rfl fun a E => ?_
  refine q_val E (y_move rfl) rfl rfl fun a E => ?_
  obtain ⟨x32, e33, hF⟩ := bnd hF
  obtain ⟨b34, o35, es36, hl37, rr38, at39, yy40⟩ := idxAt sl_31 h8 e33 (P := Tryz.prog) (X := .tmp 47) (I := .tmp 48) (kd := .i64) (ev_of E rfl) (ev_of E rfl)
  obtain ⟨rfl, r41, r42⟩ := rr38
  refine q_val E (yy40 _ _) rfl rfl fun a E => ?_
  refine q_val E (y_loadAgg (cs := [(Value.int .i64 x32.From), (Value.int .i64 x32.To)]) agg_37 rfl rfl (Holds.ro at39)) rfl rfl fun a E => ?_
  refine q_val E (y_aneq eqg_37 (eqv_struct Tryz.underlying37 stood_37 (eqfs_step (by decide) (part_one one_3 rfl) (part_one one_3 rfl) (eqv_int Tryz.underlying3) (eqfs_last (by decide) (part_one one_3 rfl) (part_one one_3 rfl) (eqv_int Tryz.underlying3)))) rfl rfl) rfl rfl fun a E => ?_
  refine wpQuiet_nil ?_
  intro w ok
  refine t_norm ?_
  refine c_if E rfl (fun hc43 => ?_) (fun hc43 => ?_)
  rotate_left
  · replace hF := cond_f hc43 hF
    refine wp_skip ?_
    refine b_norm ?_
    refine t_norm ?_
    refine c_region ?_
    refine l_val E ok (y_move rfl) rfl rfl fun a E => ?_
    refine l_val E ok (y_add rfl rfl (InR.inc r19 (pL_InR h4) hc20)) rfl rfl fun a E => ?_
    refine l_val E ok (y_assign rfl) rfl rfl fun a E => ?_
    refine wpList_nil ?_
    obtain rfl := Option.some.inj hF
    exact step_n ⟨ok, E.keep [2, 3, 5], (InR.inc r19 (pL_InR h4) hc20)⟩
  replace hF := cond_t hc43 hF
  refine wp_seq ?_
  refine c_region ?_
  refine l_val E ok (y_assign rfl) rfl rfl fun a E => ?_
  refine wpList_nil ?_
  refine t_norm ?_
  refine wp_ret ?_
  refine b_ret ?_
  refine t_ret ?_
  have hret : calqueref08_equal_R u m0 S false a w := ⟨ok.drop.drop, E.d, ⟨rv_t E rfl, trivial⟩⟩
  obtain rfl := Option.some.inj hF
  exact step_o (by nofun) (sr ⟨rfl, hret⟩)

def calqueref08_Equal_R (u : World) (m0 : Mem) (S : Segs) (r : Bool) (a : Act) (w : World) : Prop :=
  Ok u m0 S w ∧ a.defers = [] ∧ RVs Tryz.prog a w [.t 4 (.bool r)]
set_option maxHeartbeats 4000000 in
set_option maxRecDepth 100000 in
theorem calqueref08_Equal_w {u : World} {m0 : Mem} {S : Segs} {w : World} (N : Nat) (va_0 : Value) (a_0 : List (List (Relation))) (ha_0 : (pL 1 (pL 4 pRelation)) m0 [va_0] a_0) (vb_1 : Value) (b_1 : List (List (Relation))) (hb_1 : (pL 1 (pL 4 pRelation)) m0 [vb_1] b_1) {r : Bool} (hF : calqueref08_Equal N a_0 b_1 = some r) (hG : Glob u) (ok : Ok u m0 S w) :
    Calls Tryz.prog 20 [va_0, vb_1].toArray w fun e w' => (e = .returned (.bool r) ∧ Ok u m0 S w') := by
  have hb0 := ok.base
  have le_m0 := Mem.le.refl m0
  unfold calqueref08_Equal at hF
  have fin : ∀ a w, calqueref08_Equal_R u m0 S r a w → bodyPost Tryz.prog Tryz.f20 (fun e w' => (e = .returned (.bool r) ∧ Ok u m0 S w')) .ret a w := by
    intro a w h
    obtain ⟨ok, hd, hrv⟩ := h
    exact c_ret2 [.t 4 (.bool r)] hd rfl hrv ⟨rfl, ok⟩
  refine enter Tryz.func20 rfl rfl rfl fun a E => ?_
  refine wp_seq ?_
  refine c_region ?_
  refine l_val E ok (y_assign rfl) rfl rfl fun a E => ?_
  refine wpList_nil ?_
  refine t_norm ?_
  refine wp_seq ?_
  refine wp_seq ?_
  refine c_region ?_
  refine l_val E ok (y_move rfl) rfl rfl fun a E => ?_
  refine l_val E ok (y_lenL sl_23 ha_0 rfl) rfl rfl fun a E => ?_
  refine l_val E ok (y_move rfl) rfl rfl fun a E => ?_
  refine l_val E ok (y_lenL sl_23 hb_1 rfl) rfl rfl fun a E => ?_
  refine l_val E ok (y_neq rfl rfl) rfl rfl fun a E => ?_
  refine wpList_nil ?_
  refine t_norm ?_
  refine c_if E rfl (fun hc1 => ?_) (fun hc1 => ?_)
  · replace hF := cond_t hc1 hF
    refine wp_seq ?_
    refine c_region ?_
    refine l_val E ok (y_assign rfl) rfl rfl fun a E => ?_
    refine wpList_nil ?_
    refine t_norm ?_
    refine wp_ret ?_
    refine t_ret ?_
    have hret : calqueref08_Equal_R u m0 S false a w := ⟨ok, E.d, ⟨rv_t E rfl, trivial⟩⟩
    obtain rfl := Option.some.inj hF
    exact fin _ _ hret
  replace hF := cond_f hc1 hF
  refine wp_skip ?_
  refine t_norm ?_
  refine wp_seq ?_
  refine wp_seq ?_
  refine c_region ?_
  refine l_val E ok (y_assign rfl) rfl rfl fun a E => ?_
  refine wpList_nil ?_
  refine t_norm ?_
  refine wp_block ?_
  obtain ⟨o3, hL, hF⟩ := bnd hF
  refine c_loop _ (fun (s : Int) a w => Ok u m0 (S) w ∧ Env 54 a [(0, va_0), (1, vb_1), (5, (Value.int .i64 s))] ∧ InR .i64 s) (fun (b : (Unit ⊕ Bool)) e a w => (Sum.elim (fun b101 => e = (.exit 0) ∧ Ok u m0 (S) w ∧ Env 54 a []) (fun b102 => e = .ret ∧ calqueref08_Equal_R u m0 S b102 a w)) b) ?_ ?_ N _ a w hL ⟨ok, E.keep [0, 1, 5], (show InR .i64 (0) by decide)⟩
  rotate_left
  · intro e a w _ hO
    rcases o3 with o3 | o3
    rotate_left
    · replace hF := elim_r hF
      obtain ⟨rfl, hret⟩ := hO
      refine b_ret ?_
      refine t_ret ?_
      obtain rfl := Option.some.inj hF
      exact fin _ _ hret
    replace hF := elim_l hF
    obtain ⟨rfl, ok, E⟩ := hO
    refine b_hit ?_
    refine t_norm ?_
    refine wp_seq ?_
    refine c_region ?_
    refine l_val E ok (y_assign rfl) rfl rfl fun a E => ?_
    refine wpList_nil ?_
    refine t_norm ?_
    refine wp_ret ?_
    have hret : calqueref08_Equal_R u m0 S true a w := ⟨ok, E.d, ⟨rv_t E rfl, trivial⟩⟩
    obtain rfl := Option.some.inj hF
    exact fin _ _ hret
  rintro i_5 a w r ⟨ok, E, r6⟩ hF
  replace hF : calqueref08_Equal_b1 N a_0 b_1 i_5 = some r := hF
  unfold calqueref08_Equal_b1 at hF
  refine wp_seq ?_
  refine wp_seq ?_
  refine c_region ?_
  refine l_val E ok (y_move rfl) rfl rfl fun a E => ?_
  refine l_val E ok (y_move rfl) rfl rfl fun a E => ?_
  refine l_val E ok (y_lenL sl_23 ha_0 rfl) rfl rfl fun a E => ?_
  refine l_val E ok (y_lss rfl rfl) rfl rfl fun a E => ?_
  refine wpList_nil ?_
  refine t_norm ?_
  refine c_if E rfl (fun hc7 => ?_) (fun hc7 => ?_)
  rotate_left
  · replace hF := cond_f hc7 hF
    refine wp_exit ?_
    refine t_exit ?_
    obtain rfl := Option.some.inj hF
    exact step_o (by nofun) (sl ⟨rfl, ⟨ok, E.keep []⟩⟩)
  replace hF := cond_t hc7 hF
  refine wp_skip ?_
  refine t_norm ?_
  refine wp_seq ?_
  refine wp_block ?_
  refine wp_seq ?_
  refine wp_seq ?_
  refine c_draw (by kernel_rfl) (by kernel_rfl) ok ?_
  refine q_val E (y_move rfl) rfl rfl fun a E => ?_
  refine q_val E (y_move rfl) rfl rfl fun a E => ?_
  obtain ⟨x8, e9, hF⟩ := bnd hF
  obtain ⟨b10, o11, es12, hl13, rr14, at15, yy16⟩ := idxAt sl_23 ha_0 e9 (P := Tryz.prog) (X := .tmp 18) (I := .tmp 19) (kd := .i64) (ev_of E rfl) (ev_of E rfl)
  obtain ⟨c17, rfl, h18⟩ := pL_cell rr14
  refine q_val E (yy16 _ _) rfl rfl fun a E => ?_
  refine q_val E (y_load one_34 rfl (Holds.ro at15)) rfl rfl fun a E => ?_
  refine q_val E (y_lenL sl_34 h18 rfl) rfl rfl fun a E => ?_
  refine q_val E (y_move rfl) rfl rfl fun a E => ?_
  refine q_val E (y_move rfl) rfl rfl fun a E => ?_
  obtain ⟨x19, e20, hF⟩ := bnd hF
  obtain ⟨b21, o22, es23, hl24, rr25, at26, yy27⟩ := idxAt sl_23 hb_1 e20 (P := Tryz.prog) (X := .tmp 23) (I := .tmp 24) (kd := .i64) (ev_of E rfl) (ev_of E rfl)
  obtain ⟨c28, rfl, h29⟩ := pL_cell rr25
  refine q_val E (yy27 _ _) rfl rfl fun a E => ?_
  refine q_val E (y_load one_34 rfl (Holds.ro at26)) rfl rfl fun a E => ?_
  refine q_val E (y_lenL sl_34 h29 rfl) rfl rfl fun a E => ?_
  refine q_val E (y_neq rfl rfl) rfl rfl fun a E => ?_
  refine wpQuiet_nil ?_
  intro w ok
  refine t_norm ?_
  refine c_if E rfl (fun hc30 => ?_) (fun hc30 => ?_)
  · replace hF := cond_t hc30 hF
    refine wp_seq ?_
    refine c_region ?_
    refine l_val E ok (y_assign rfl) rfl rfl fun a E => ?_
    refine wpList_nil ?_
    refine t_norm ?_
    refine wp_ret ?_
    refine t_ret ?_
    refine b_ret ?_
    refine t_ret ?_
    have hret : calqueref08_Equal_R u m0 S false a w := ⟨ok, E.d, ⟨rv_t E rfl, trivial⟩⟩
    obtain rfl := Option.some.inj hF
    exact step_o (by nofun) (sr ⟨rfl, hret⟩)
  replace hF := cond_f hc30 hF
  refine wp_skip ?_
  refine t_norm ?_
  refine wp_seq ?_
  refine c_region ?_
  refine l_val E ok (y_assign rfl) rfl rfl fun a E => ?_
  refine wpList_nil ?_
  refine t_norm ?_
  refine wp_block ?_
  obtain ⟨o32, hL, hF⟩ := bnd hF
  refine c_loop _ (fun (s : Int) a w => Ok u m0 (S) w ∧ Env 54 a [(0, va_0), (1, vb_1), (5, (Value.int .i64 i_5)), (6, (Value.int .i64 s))] ∧ InR .i64 s) (fun (b : (Unit ⊕ Bool)) e a w => (Sum.elim (fun b99 => e = (.exit 2) ∧ Ok u m0 (S) w ∧ Env 54 a [(0, va_0), (1, vb_1), (5, (Value.int .i64 i_5))]) (fun b100 => e = .ret ∧ calqueref08_Equal_R u m0 S b100 a w)) b) ?_ ?_ N _ a w hL ⟨ok, E.keep [0, 1, 5, 6], (show InR .i64 (0) by decide)⟩
  rotate_left
  · intro e a w _ hO
    rcases o32 with o32 | o32
    rotate_left
    · replace hF := elim_r hF
      obtain ⟨rfl, hret⟩ := hO
      refine b_ret ?_
      refine b_ret ?_
      refine t_ret ?_
      obtain rfl := Option.some.inj hF
      exact step_o (by nofun) (sr ⟨rfl, hret⟩)
    replace hF := elim_l hF
    obtain ⟨rfl, ok, E⟩ := hO
    refine b_hit ?_
    refine b_norm ?_
    refine t_norm ?_
    refine c_region ?_
    refine l_val E ok (y_move rfl) rfl rfl fun a E => ?_
    refine l_val E ok (y_add rfl rfl (InR.inc r6 (pL_InR ha_0) hc7)) rfl rfl fun a E => ?_
    refine l_val E ok (y_assign rfl) rfl rfl fun a E => ?_
    refine wpList_nil ?_
    obtain rfl := Option.some.inj hF
    exact step_n ⟨ok, E.keep [0, 1, 5], (InR.inc r6 (pL_InR ha_0) hc7)⟩
  rintro k_34 a w r ⟨ok, E, r35⟩ hF
  replace hF : calqueref08_Equal_b2 N a_0 b_1 i_5 k_34 = some r := hF
  unfold calqueref08_Equal_b2 at hF
  refine wp_seq ?_
  refine wp_seq ?_
  refine c_region ?_
  refine l_val E ok (y_move rfl) rfl rfl fun a E => ?_
  refine l_val E ok (y_move rfl) rfl rfl fun a E => ?_
  refine l_val E ok (y_move rfl) rfl rfl fun a E => ?_
  obtain ⟨x36, e37, hF⟩ := bnd hF
  obtain ⟨b38, o39, es40, hl41, rr42, at43, yy44⟩ := idxAt sl_23 ha_0 e37 (P := Tryz.prog) (X := .tmp 30) (I := .tmp 31) (kd := .i64) (ev_of E rfl) (ev_of E rfl)
  obtain ⟨c45, rfl, h46⟩ := pL_cell rr42
  refine l_val E ok (yy44 _ _) rfl rfl fun a E => ?_
  refine l_val E ok (y_load one_34 rfl (Holds.ro at43)) rfl rfl fun a E => ?_
  refine l_val E ok (y_lenL sl_34 h46 rfl) rfl rfl fun a E => ?_
  refine l_val E ok (y_lss rfl rfl) rfl rfl fun a E => ?_
  refine wpList_nil ?_
  refine t_norm ?_
  refine c_if E rfl (fun hc47 => ?_) (fun hc47 => ?_)
  rotate_left
  · replace hF := cond_f hc47 hF
    refine wp_exit ?_
    refine t_exit ?_
    obtain rfl := Option.some.inj hF
    exact step_o (by nofun) (sl ⟨rfl, ⟨ok, E.keep [0, 1, 5]⟩⟩)
  replace hF := cond_t hc47 hF
  refine wp_skip ?_
  refine t_norm ?_
  refine wp_seq ?_
  refine wp_block ?_
  refine wp_seq ?_
  refine c_draw (by kernel_rfl) (by kernel_rfl) ok ?_
  refine q_val E (y_move rfl) rfl rfl fun a E => ?_
  refine q_val E (y_move rfl) rfl rfl fun a E => ?_
  obtain ⟨x48, e49, hF⟩ := bnd hF
  obtain ⟨b50, o51, es52, hl53, rr54, at55, yy56⟩ := idxAt sl_23 ha_0 e49 (P := Tryz.prog) (X := .tmp 38) (I := .tmp 39) (kd := .i64) (ev_of E rfl) (ev_of E rfl)
  obtain ⟨c57, rfl, h58⟩ := pL_cell rr54
  refine q_val E (yy56 _ _) rfl rfl fun a E => ?_
  refine q_val E (y_load one_34 rfl (Holds.ro at55)) rfl rfl fun a E => ?_
  refine q_val E (y_move rfl) rfl rfl fun a E => ?_
  obtain ⟨x59, e60, hF⟩ := bnd hF
  obtain ⟨b61, o62, es63, hl64, rr65, at66, yy67⟩ := idxAt sl_34 h58 e60 (P := Tryz.prog) (X := .tmp 41) (I := .tmp 42) (kd := .i64) (ev_of E rfl) (ev_of E rfl)
  obtain ⟨c70, rfl, r68, r69, h71⟩ := rr65
  refine q_val E (yy67 _ _) rfl rfl fun a E => ?_
  refine q_val E (y_loadAgg (cs := [(Value.int .i64 x59.Operand), (Value.int .i64 x59.Mod), (Value.bool x59.Not), c70]) agg_33 rfl rfl (Holds.ro at66)) rfl rfl fun a E => ?_
  refine q_val E (y_move rfl) rfl rfl fun a E => ?_
  refine q_val E (y_move rfl) rfl rfl fun a E => ?_
  obtain ⟨x72, e73, hF⟩ := bnd hF
  obtain ⟨b74, o75, es76, hl77, rr78, at79, yy80⟩ := idxAt sl_23 hb_1 e73 (P := Tryz.prog) (X := .tmp 45) (I := .tmp 46) (kd := .i64) (ev_of E rfl) (ev_of E rfl)
  obtain ⟨c81, rfl, h82⟩ := pL_cell rr78
  refine q_val E (yy80 _ _) rfl rfl fun a E => ?_
  refine q_val E (y_load one_34 rfl (Holds.ro at79)) rfl rfl fun a E => ?_
  refine q_val E (y_move rfl) rfl rfl fun a E => ?_
  obtain ⟨x83, e84, hF⟩ := bnd hF
  obtain ⟨b85, o86, es87, hl88, rr89, at90, yy91⟩ := idxAt sl_34 h82 e84 (P := Tryz.prog) (X := .tmp 48) (I := .tmp 49) (kd := .i64) (ev_of E rfl) (ev_of E rfl)
  obtain ⟨c94, rfl, r92, r93, h95⟩ := rr89
  refine q_val E (yy91 _ _) rfl rfl fun a E => ?_
  refine q_val E (y_loadAgg (cs := [(Value.int .i64 x83.Operand), (Value.int .i64 x83.Mod), (Value.bool x83.Not), c94]) agg_33 rfl rfl (Holds.ro at90)) rfl rfl fun a E => ?_
  obtain ⟨r96, e97, hF⟩ := bnd hF
  refine q_call E go_41 rfl (fun w ok => (calqueref08_equal_w N _ x59 ⟨_, rfl, r68, r69, h71⟩ _ x83 ⟨_, rfl, r92, r93, h95⟩ e97 hG ok).mono (fun _ _ h => h)) rfl rfl fun a E => ?_
  refine q_val E (y_not rfl) rfl rfl fun a E => ?_
  refine wpQuiet_nil ?_
  intro w ok
  refine t_norm ?_
  refine c_if E rfl (fun hc98 => ?_) (fun hc98 => ?_)
  rotate_left
  · replace hF := cond_f hc98 hF
    refine wp_skip ?_
    refine b_norm ?_
    refine t_norm ?_
    refine c_region ?_
    refine l_val E ok (y_move rfl) rfl rfl fun a E => ?_
    refine l_val E ok (y_add rfl rfl (InR.inc r35 (pL_InR h46) hc47)) rfl rfl fun a E => ?_
    refine l_val E ok (y_assign rfl) rfl rfl fun a E => ?_
    refine wpList_nil ?_
    obtain rfl := Option.some.inj hF
    exact step_n ⟨ok, E.keep [0, 1, 5, 6], (InR.inc r35 (pL_InR h46) hc47)⟩
  replace hF := cond_t hc98 hF
  refine wp_seq ?_
  refine c_region ?_
  refine l_val E ok (y_assign rfl) rfl rfl fun a E => ?_
  refine wpList_nil ?_
  refine t_norm ?_
  refine wp_ret ?_
  refine b_ret ?_
  refine t_ret ?_
  have hret : calqueref08_Equal_R u m0 S false a w := ⟨ok, E.d, ⟨rv_t E rfl, trivial⟩⟩
  obtain rfl := Option.some.inj hF
  exact step_o (by nofun) (sr ⟨rfl, hret⟩)

def calqueref08_decimal_R (u : World) (m0 : Mem) (S : Segs) (r : (List UInt8)) (a : Act) (w : World) : Prop :=
  Ok u m0 S w ∧ a.defers = [] ∧ RVs Tryz.prog a w [.t 2 (.string (bs r))] ∧ r.length ≤ LIMS
set_option maxHeartbeats 4000000 in
set_option maxRecDepth 100000 in
theorem calqueref08_decimal_w (N : Nat) : ∀ {u : World} {m0 : Mem} {S : Segs} {w : World} (n_0 : Int) (rn_0 : InR .i64 n_0) {r : (List UInt8)} (hF : calqueref08_decimal N n_0 = some r) (hG : Glob u) (ok : Ok u m0 S w),
    Calls Tryz.prog 73 [Value.int .i64 n_0].toArray w fun e w' => (e = .returned (.string (bs r)) ∧ Ok u m0 S w') ∧ r.length ≤ LIMS := by
  induction N with
  | zero => intro u m0 S w n_0 rn_0 r hF hG ok; cases hF
  | succ N ih =>
  intro u m0 S w n_0 rn_0 r hF hG ok
  have hb0 := ok.base
  have le_m0 := Mem.le.refl m0
  rw [calqueref08_decimal.eq_2] at hF
  have fin : ∀ a w, calqueref08_decimal_R u m0 S r a w → bodyPost Tryz.prog Tryz.f73 (fun e w' => (e = .returned (.string (bs r)) ∧ Ok u m0 S w') ∧ r.length ≤ LIMS) .ret a w := by
    intro a w h
    obtain ⟨ok, hd, hrv, h0⟩ := h
    exact c_ret2 [.t 2 (.string (bs r))] hd rfl hrv ⟨⟨rfl, ok⟩, h0⟩
  refine enter Tryz.func73 rfl rfl rfl fun a E => ?_
  refine wp_seq ?_
  refine c_region ?_
  refine l_val E ok (y_assign rfl) rfl rfl fun a E => ?_
  refine wpList_nil ?_
  refine t_norm ?_
  refine wp_seq ?_
  refine wp_seq ?_
  refine c_region ?_
  refine l_val E ok (y_move rfl) rfl rfl fun a E => ?_
  refine l_val E ok (y_geq rfl rfl) rfl rfl fun a E => ?_
  refine wpList_nil ?_
  refine t_norm ?_
  refine c_if E rfl (fun hc1 => ?_) (fun hc1 => ?_)
  rotate_left
  · replace hF := cond_f hc1 hF
    refine wp_skip ?_
    refine t_norm ?_
    refine wp_seq ?_
    refine c_region ?_
    refine l_val E ok (y_move rfl) rfl rfl fun a E => ?_
    refine l_val E ok (y_addw rfl rfl) rfl rfl fun a E => ?_
    refine l_val E ok (y_conv Tryz.underlying3 Tryz.underlying5 rfl) rfl rfl fun a E => ?_
    refine l_slit (R := (pI .u8)) (xo := [.tmp 14]) (xs := ([(IntKind.wrap .u8 (IntKind.wrap .i64 ((48 : Int) + n_0)))] : List (Int))) E ok sl_85 zero_5 rfl ⟨⟨_, rfl, rfl, (pI_mk (InR.wrap _ _))⟩, trivial⟩ rfl rfl rfl rfl fun c12 M13 a w E ok h14 => ?_
    refine l_val E ok (y_bstr Tryz.underlying85 Tryz.underlying5 Tryz.underlying9 rfl (BR.ofRow h14 0 rfl)) rfl rfl fun a E => ?_
    refine l_val E ok (y_assign rfl) rfl rfl fun a E => ?_
    refine wpList_nil ?_
    refine t_norm ?_
    refine wp_ret ?_
    have hret : calqueref08_decimal_R u m0 S (bytesOf ([(IntKind.wrap .u8 (IntKind.wrap .i64 ((48 : Int) + n_0)))] : List (Int))) a w := ⟨ok.drop, E.d, ⟨rv_t E rfl, trivial⟩, (Nat.le_trans (Nat.le_of_eq bytesOf_len) h14.form.2)⟩
    obtain rfl := Option.some.inj hF
    exact fin _ _ hret
  replace hF := cond_t hc1 hF
  refine wp_seq ?_
  refine c_region ?_
  refine l_val E ok (y_move rfl) rfl rfl fun a E => ?_
  refine l_val E ok (y_quo rfl rfl (by decide)) rfl rfl fun a E => ?_
  obtain ⟨r2, e3, hF⟩ := bnd hF
  refine l_call E go_73 rfl (ih (IntKind.wrap .i64 (n_0.tdiv 10)) (InR.wrap _ _) e3 hG ok) rfl rfl ?_
  rintro _ w ⟨⟨rfl, ok⟩, l4⟩
  refine ⟨_, rfl, fun a E => ?_⟩
  refine l_val E ok (y_move rfl) rfl rfl fun a E => ?_
  obtain ⟨q5, e6, hF⟩ := bnd hF
  refine l_val E ok (y_rm rfl rfl e6) rfl rfl fun a E => ?_
  obtain ⟨r7, e8, hF⟩ := bnd hF
  refine l_call E go_73 rfl (ih q5 (rm_InR e6 rn_0) e8 hG ok) rfl rfl ?_
  rintro _ w ⟨⟨rfl, ok⟩, l9⟩
  refine ⟨_, rfl, fun a E => ?_⟩
  obtain ⟨s10, e11, hF⟩ := bnd hF
  refine l_val E ok (y_cat rfl rfl e11) rfl rfl fun a E => ?_
  refine l_val E ok (y_assign rfl) rfl rfl fun a E => ?_
  refine wpList_nil ?_
  refine t_norm ?_
  refine wp_ret ?_
  refine t_ret ?_
  have hret : calqueref08_decimal_R u m0 S s10 a w := ⟨ok, E.d, ⟨rv_t E rfl, trivial⟩, (cat_len e11)⟩
  obtain rfl := Option.some.inj hF
  exact fin _ _ hret

def calqueref08_relation_R (u : World) (m0 : Mem) (S : Segs) (r : (List UInt8)) (a : Act) (w : World) : Prop :=
  Ok u m0 S w ∧ a.defers = [] ∧ RVs Tryz.prog a w [.t 2 (.string (bs r))] ∧ r.length ≤ LIMS
set_option maxHeartbeats 4000000 in
set_option maxRecDepth 100000 in
theorem calqueref08_relation_w {u : World} {m0 : Mem} {S : Segs} {w : World} (N : Nat) (vr_0 : List Value) (r_0 : Relation) (hr_0 : pRelation m0 vr_0 r_0) {r : (List UInt8)} (hF : calqueref08_relation N r_0 = some r) (hG : Glob u) (ok : Ok u m0 S w) :
    Calls Tryz.prog 42 [.agg vr_0.toArray].toArray w fun e w' => (e = .returned (.string (bs r)) ∧ Ok u m0 S w') ∧ r.length ≤ LIMS := by
  obtain ⟨c3, rfl, r1, r2, h4⟩ := hr_0
  have hb0 := ok.base
  have le_m0 := Mem.le.refl m0
  unfold calqueref08_relation at hF
  have fin : ∀ a w, calqueref08_relation_R u m0 S r a w → bodyPost Tryz.prog Tryz.f42 (fun e w' => (e = .returned (.string (bs r)) ∧ Ok u m0 S w') ∧ r.length ≤ LIMS) .ret a w := by
    intro a w h
    obtain ⟨ok, hd, hrv, h0⟩ := h
    exact c_ret2 [.t 2 (.string (bs r))] hd rfl hrv ⟨⟨rfl, ok⟩, h0⟩
  refine enter Tryz.func42 rfl rfl rfl fun a E => ?_
  refine wp_seq ?_
  refine c_region ?_
  refine l_box E ok rfl rfl rfl fun b5 a w E ok => ?_
  refine l_val E ok (y_assign rfl) rfl rfl fun a E => ?_
  refine wpList_nil ?_
  refine t_norm ?_
  refine wp_seq ?_
  refine c_region ?_
  refine l_val E ok (y_fieldAddr fo_33_0 rfl) rfl rfl fun a E => ?_
  refine l_val E ok (y_load one_3 rfl (Holds.own 0 rfl rfl)) rfl rfl fun a E => ?_
  refine l_val E ok (y_subw rfl rfl) rfl rfl fun a E => ?_
  refine l_val E ok (y_fieldAddr fo_33_0 rfl) rfl rfl fun a E => ?_
  refine l_val E ok (y_load one_3 rfl (Holds.own 0 rfl rfl)) rfl rfl fun a E => ?_
  obtain ⟨s6, e7, hF⟩ := bnd hF
  refine l_val E ok (y_sslice Tryz.underlying9 e7 rfl ⟨_, rfl⟩ ⟨_, rfl⟩) rfl rfl fun a E => ?_
  refine l_val E ok (y_assign rfl) rfl rfl fun a E => ?_
  refine wpList_nil ?_
  refine t_norm ?_
  refine wp_seq ?_
  refine wp_seq ?_
  refine c_region ?_
  refine l_val E ok (y_fieldAddr fo_33_1 rfl) rfl rfl fun a E => ?_
  refine l_val E ok (y_load one_3 rfl (Holds.own 0 rfl rfl)) rfl rfl fun a E => ?_
  refine l_val E ok (y_neq rfl rfl) rfl rfl fun a E => ?_
  refine wpList_nil ?_
  refine t_norm ?_
  obtain ⟨o8, hJ, hF⟩ := bnd hF
  refine c_mono (Q' := fun e a w => e = .normal ∧ Ok u m0 ([(b5, Obj.cells [(Value.int .i64 r_0.Operand), (Value.int .i64 r_0.Mod), (Value.bool r_0.Not), c3].toArray 33 (0, 0))] :: S) w ∧ Env 72 a [(1, (Value.pointer (some ⟨b5, 0, none⟩))), (3, (Value.string (bs o8)))] ∧ o8.length ≤ LIMS) ?_ ?_
  · replace hF := hJ
    clear hJ
    refine c_if E rfl (fun hc10 => ?_) (fun hc10 => ?_)
    rotate_left
    · replace hF := cond_f hc10 hF
      refine wp_skip ?_
      obtain rfl := Option.some.inj hF
      exact ⟨rfl, ⟨ok, E.keep [1, 3], (Nat.le_trans (slc_len e7) (show ([110, 105, 118, 119, 102, 116] : List UInt8).length ≤ LIMS by decide))⟩⟩
    replace hF := cond_t hc10 hF
    refine c_region ?_
    refine l_val E ok (y_move rfl) rfl rfl fun a E => ?_
    refine l_val E ok (y_fieldAddr fo_33_1 rfl) rfl rfl fun a E => ?_
    refine l_val E ok (y_load one_3 rfl (Holds.own 0 rfl rfl)) rfl rfl fun a E => ?_
    obtain ⟨r11, e12, hF⟩ := bnd hF
    refine l_call E go_73 rfl (calqueref08_decimal_w N r_0.Mod r2 e12 hG ok) rfl rfl ?_
    rintro _ w ⟨⟨rfl, ok⟩, l13⟩
    refine ⟨_, rfl, fun a E => ?_⟩
    obtain ⟨s14, e15, hF⟩ := bnd hF
    refine l_val E ok (y_cat rfl rfl e15) rfl rfl fun a E => ?_
    obtain ⟨s16, e17, hF⟩ := bnd hF
    refine l_val E ok (y_cat rfl rfl e17) rfl rfl fun a E => ?_
    refine l_val E ok (y_assign rfl) rfl rfl fun a E => ?_
    refine wpList_nil ?_
    obtain rfl := Option.some.inj hF
    exact ⟨rfl, ⟨ok, E.keep [1, 3], (cat_len e17)⟩⟩
  clear hJ
  intro e a w hO
  obtain ⟨rfl, ok, E, l18⟩ := hO
  refine t_norm ?_
  refine wp_seq ?_
  refine wp_seq ?_
  refine c_region ?_
  refine l_val E ok (y_fieldAddr fo_33_2 rfl) rfl rfl fun a E => ?_
  refine l_val E ok (y_load one_4 rfl (Holds.own 0 rfl rfl)) rfl rfl fun a E => ?_
  refine wpList_nil ?_
  refine t_norm ?_
  obtain ⟨o19, hJ, hF⟩ := bnd hF
  refine c_mono (Q' := fun e a w => e = .normal ∧ Ok u m0 ([(b5, Obj.cells [(Value.int .i64 r_0.Operand), (Value.int .i64 r_0.Mod), (Value.bool r_0.Not), c3].toArray 33 (0, 0))] :: S) w ∧ Env 72 a [(1, (Value.pointer (some ⟨b5, 0, none⟩))), (3, (Value.string (bs o19)))] ∧ o19.length ≤ LIMS) ?_ ?_
  · replace hF := hJ
    clear hJ
    refine c_if E rfl (fun hc21 => ?_) (fun hc21 => ?_)
    · replace hF := cond_t hc21 hF
      refine c_region ?_
      refine l_val E ok (y_move rfl) rfl rfl fun a E => ?_
      obtain ⟨s22, e23, hF⟩ := bnd hF
      refine l_val E ok (y_cat rfl rfl e23) rfl rfl fun a E => ?_
      refine l_val E ok (y_assign rfl) rfl rfl fun a E => ?_
      refine wpList_nil ?_
      obtain rfl := Option.some.inj hF
      exact ⟨rfl, ⟨ok, E.keep [1, 3], (cat_len e23)⟩⟩
    replace hF := cond_f hc21 hF
    refine c_region ?_
    refine l_val E ok (y_move rfl) rfl rfl fun a E => ?_
    obtain ⟨s24, e25, hF⟩ := bnd hF
    refine l_val E ok (y_cat rfl rfl e25) rfl rfl fun a E => ?_
    refine l_val E ok (y_assign rfl) rfl rfl fun a E => ?_
    refine wpList_nil ?_
    obtain rfl := Option.some.inj hF
    exact ⟨rfl, ⟨ok, E.keep [1, 3], (cat_len e25)⟩⟩
  clear hJ
  intro e a w hO
  obtain ⟨rfl, ok, E, l26⟩ := hO
  refine t_norm ?_
  refine wp_seq ?_
  refine wp_seq ?_
  refine c_region ?_
  refine l_val E ok (y_assign rfl) rfl rfl fun a E => ?_
  refine wpList_nil ?_
  refine t_norm ?_
  refine wp_block ?_
  obtain ⟨o29, hL, hF⟩ := bnd hF
  refine c_loop _ (fun (s : (List UInt8) × Int) a w => Ok u m0 ([(b5, Obj.cells [(Value.int .i64 r_0.Operand), (Value.int .i64 r_0.Mod), (Value.bool r_0.Not), c3].toArray 33 (0, 0))] :: S) w ∧ Env 72 a [(1, (Value.pointer (some ⟨b5, 0, none⟩))), (3, (Value.string (bs s.1))), (4, (Value.int .i64 s.2))] ∧ s.1.length ≤ LIMS ∧ InR .i64 s.2) (fun (b : ((List UInt8))) e a w => e = (.exit 0) ∧ Ok u m0 ([(b5, Obj.cells [(Value.int .i64 r_0.Operand), (Value.int .i64 r_0.Mod), (Value.bool r_0.Not), c3].toArray 33 (0, 0))] :: S) w ∧ Env 72 a [(3, (Value.string (bs b)))] ∧ b.length ≤ LIMS) ?_ ?_ N _ a w hL ⟨ok, E.keep [1, 3, 4], l26, (show InR .i64 (0) by decide)⟩
  rotate_left
  · intro e a w _ hO
    obtain ⟨rfl, ok, E, l102⟩ := hO
    refine b_hit ?_
    refine t_norm ?_
    refine wp_seq ?_
    refine c_region ?_
    refine l_val E ok (y_move rfl) rfl rfl fun a E => ?_
    refine l_val E ok (y_assign rfl) rfl rfl fun a E => ?_
    refine wpList_nil ?_
    refine t_norm ?_
    refine wp_ret ?_
    have hret : calqueref08_relation_R u m0 S o29 a w := ⟨ok.drop, E.d, ⟨rv_t E rfl, trivial⟩, l102⟩
    obtain rfl := Option.some.inj hF
    exact fin _ _ hret
  rintro ⟨s_32, i_33⟩ a w r ⟨ok, E, l34, r35⟩ hF
  replace hF : calqueref08_relation_b1 N r_0 s_32 i_33 = some r := hF
  unfold calqueref08_relation_b1 at hF
  refine wp_seq ?_
  refine wp_seq ?_
  refine c_region ?_
  refine l_val E ok (y_move rfl) rfl rfl fun a E => ?_
  refine l_val E ok (y_fieldAddr fo_33_3 rfl) rfl rfl fun a E => ?_
  refine l_val E ok (y_load one_31 rfl (Holds.own 0 rfl rfl)) rfl rfl fun a E => ?_
  refine l_val E ok (y_lenL sl_31 h4 rfl) rfl rfl fun a E => ?_
  refine l_val E ok (y_lss rfl rfl) rfl rfl fun a E => ?_
  refine wpList_nil ?_
  refine t_norm ?_
  refine c_if E rfl (fun hc36 => ?_) (fun hc36 => ?_)
  rotate_left
  · replace hF := cond_f hc36 hF
    refine wp_exit ?_
    refine t_exit ?_
    obtain rfl := Option.some.inj hF
    exact step_o (by nofun) (⟨rfl, ⟨ok, E.keep [3], l34⟩⟩)
  replace hF := cond_t hc36 hF
  refine wp_skip ?_
  refine t_norm ?_
  refine wp_seq ?_
  refine wp_block ?_
  refine wp_seq ?_
  refine wp_seq ?_
  refine c_region ?_
  refine l_val E ok (y_move rfl) rfl rfl fun a E => ?_
  refine l_val E ok (y_eql rfl rfl) rfl rfl fun a E => ?_
  refine wpList_nil ?_
  refine t_norm ?_
  obtain ⟨o37, hJ, hF⟩ := bnd hF
  refine c_mono (Q' := fun e a w => e = .normal ∧ Ok u m0 ([(b5, Obj.cells [(Value.int .i64 r_0.Operand), (Value.int .i64 r_0.Mod), (Value.bool r_0.Not), c3].toArray 33 (0, 0))] :: S) w ∧ Env 72 a [(1, (Value.pointer (some ⟨b5, 0, none⟩))), (3, (Value.string (bs o37))), (4, (Value.int .i64 i_33))] ∧ o37.length ≤ LIMS) ?_ ?_
  · replace hF := hJ
    clear hJ
    refine c_if E rfl (fun hc39 => ?_) (fun hc39 => ?_)
    · replace hF := cond_t hc39 hF
      refine c_region ?_
      refine l_val E ok (y_move rfl) rfl rfl fun a E => ?_
      obtain ⟨s40, e41, hF⟩ := bnd hF
      refine l_val E ok (y_cat rfl rfl e41) rfl rfl fun a E => ?_
      refine l_val E ok (y_assign rfl) rfl rfl fun a E => ?_
      refine wpList_nil ?_
      obtain rfl := Option.some.inj hF
      exact ⟨rfl, ⟨ok, E.keep [1, 3, 4], (cat_len e41)⟩⟩
    replace hF := cond_f hc39 hF
    refine c_region ?_
    refine l_val E ok (y_move rfl) rfl rfl fun a E => ?_
    obtain ⟨s42, e43, hF⟩ := bnd hF
    refine l_val E ok (y_cat rfl rfl e43) rfl rfl fun a E => ?_
    refine l_val E ok (y_assign rfl) rfl rfl fun a E => ?_
    refine wpList_nil ?_
    obtain rfl := Option.some.inj hF
    exact ⟨rfl, ⟨ok, E.keep [1, 3, 4], (cat_len e43)⟩⟩
  clear hJ
  intro e a w hO
  obtain ⟨rfl, ok, E, l44⟩ := hO
  refine t_norm ?_
  refine wp_seq ?_
  refine c_region ?_
  refine l_val E ok (y_move rfl) rfl rfl fun a E => ?_
  refine l_val E ok (y_fieldAddr fo_33_3 rfl) rfl rfl fun a E => ?_
  refine l_val E ok (y_load one_31 rfl (Holds.own 0 rfl rfl)) rfl rfl fun a E => ?_
  refine l_val E ok (y_move rfl) rfl rfl fun a E => ?_
  obtain ⟨x45, e46, hF⟩ := bnd hF
  obtain ⟨b47, o48, es49, hl50, rr51, at52, yy53⟩ := idxAt sl_31 h4 e46 (P := Tryz.prog) (X := .tmp 41) (I := .tmp 42) (kd := .i64) (ev_of E rfl) (ev_of E rfl)
  obtain ⟨rfl, r54, r55⟩ := rr51
  refine l_val E ok (yy53 _ _) rfl rfl fun a E => ?_
  refine l_val E ok (y_fieldAddr fo_37_0 rfl) rfl rfl fun a E => ?_
  refine l_val E ok (y_load one_3 rfl (Holds.ro (At.sub 0 1 at52))) rfl rfl fun a E => ?_
  obtain ⟨r56, e57, hF⟩ := bnd hF
  refine l_call E go_73 rfl (calqueref08_decimal_w N x45.From r54 e57 hG ok) rfl rfl ?_
  rintro _ w ⟨⟨rfl, ok⟩, l58⟩
  refine ⟨_, rfl, fun a E => ?_⟩
  obtain ⟨s59, e60, hF⟩ := bnd hF
  refine l_val E ok (y_cat rfl rfl e60) rfl rfl fun a E => ?_
  refine l_val E ok (y_assign rfl) rfl rfl fun a E => ?_
  refine wpList_nil ?_
  refine t_norm ?_
  refine wp_seq ?_
  refine c_draw (by kernel_rfl) (by kernel_rfl) ok ?_
  refine q_val E (y_fieldAddr fo_33_3 rfl) rfl rfl fun a E => ?_
  refine q_val E (y_load one_31 rfl (Holds.own 0 rfl rfl)) rfl rfl fun a E => ?_
  refine q_val E (y_move rfl) rfl rfl fun a E => ?_
  obtain ⟨x61, e62, hF⟩ := bnd hF
  obtain ⟨b63, o64, es65, hl66, rr67, at68, yy69⟩ := idxAt sl_31 h4 e62 (P := Tryz.prog) (X := .tmp 49) (I := .tmp 50) (kd := .i64) (ev_of E rfl) (ev_of E rfl)
  obtain ⟨rfl, r70, r71⟩ := rr67
  refine q_val E (yy69 _ _) rfl rfl fun a E => ?_
  refine q_val E (y_fieldAddr fo_37_1 rfl) rfl rfl fun a E => ?_
  refine q_val E (y_load one_3 rfl (Holds.ro (At.sub 1 1 at68))) rfl rfl fun a E => ?_
  refine q_val E (y_fieldAddr fo_33_3 rfl) rfl rfl fun a E => ?_
  refine q_val E (y_load one_31 rfl (Holds.own 0 rfl rfl)) rfl rfl fun a E => ?_
  refine q_val E (y_move rfl) rfl rfl fun a E => ?_
  obtain ⟨x72, e73, hF⟩ := bnd hF
  obtain ⟨b74, o75, es76, hl77, rr78, at79, yy80⟩ := idxAt sl_31 h4 e73 (P := Tryz.prog) (X := .tmp 55) (I := .tmp 56) (kd := .i64) (ev_of E rfl) (ev_of E rfl)
  obtain ⟨rfl, r81, r82⟩ := rr78
  refine q_val E (yy80 _ _) rfl rfl fun a E => ?_
  refine q_val E (y_fieldAddr fo_37_0 rfl) rfl rfl fun a E => ?_
  refine q_val E (y_load one_3 rfl (Holds.ro (At.sub 0 1 at79))) rfl rfl fun a E => ?_
  refine q_val E (y_neq rfl rfl) rfl rfl fun a E => ?_
  refine wpQuiet_nil ?_
  intro w ok
  refine t_norm ?_
  refine c_if E rfl (fun hc83 => ?_) (fun hc83 => ?_)
  rotate_left
  · replace hF := cond_f hc83 hF
    refine wp_skip ?_
    refine b_norm ?_
    refine t_norm ?_
    refine c_region ?_
    refine l_val E ok (y_move rfl) rfl rfl fun a E => ?_
    refine l_val E ok (y_add rfl rfl (InR.inc r35 (pL_InR h4) hc36)) rfl rfl fun a E => ?_
    refine l_val E ok (y_assign rfl) rfl rfl fun a E => ?_
    refine wpList_nil ?_
    obtain rfl := Option.some.inj hF
    exact step_n ⟨ok, E.keep [1, 3, 4], (cat_len e60), (InR.inc r35 (pL_InR h4) hc36)⟩
  replace hF := cond_t hc83 hF
  refine c_region ?_
  refine l_val E ok (y_move rfl) rfl rfl fun a E => ?_
  refine l_val E ok (y_fieldAddr fo_33_3 rfl) rfl rfl fun a E => ?_
  refine l_val E ok (y_load one_31 rfl (Holds.own 0 rfl rfl)) rfl rfl fun a E => ?_
  refine l_val E ok (y_move rfl) rfl rfl fun a E => ?_
  obtain ⟨x84, e85, hF⟩ := bnd hF
  obtain ⟨b86, o87, es88, hl89, rr90, at91, yy92⟩ := idxAt sl_31 h4 e85 (P := Tryz.prog) (X := .tmp 63) (I := .tmp 64) (kd := .i64) (ev_of E rfl) (ev_of E rfl)
  obtain ⟨rfl, r93, r94⟩ := rr90
  refine l_val E ok (yy92 _ _) rfl rfl fun a E => ?_
  refine l_val E ok (y_fieldAddr fo_37_1 rfl) rfl rfl fun a E => ?_
  refine l_val E ok (y_load one_3 rfl (Holds.ro (At.sub 1 1 at91))) rfl rfl fun a E => ?_
  obtain ⟨r95, e96, hF⟩ := bnd hF
  refine l_call E go_73 rfl (calqueref08_decimal_w N x84.To r94 e96 hG ok) rfl rfl ?_
  rintro _ w ⟨⟨rfl, ok⟩, l97⟩
  refine ⟨_, rfl, fun a E => ?_⟩
  obtain ⟨s98, e99, hF⟩ := bnd hF
  refine l_val E ok (y_cat rfl rfl e99) rfl rfl fun a E => ?_
  obtain ⟨s100, e101, hF⟩ := bnd hF
  refine l_val E ok (y_cat rfl rfl e101) rfl rfl fun a E => ?_
  refine l_val E ok (y_assign rfl) rfl rfl fun a E => ?_
  refine wpList_nil ?_
  refine b_norm ?_
  refine t_norm ?_
  refine c_region ?_
  refine l_val E ok (y_move rfl) rfl rfl fun a E => ?_
  refine l_val E ok (y_add rfl rfl (InR.inc r35 (pL_InR h4) hc36)) rfl rfl fun a E => ?_
  refine l_val E ok (y_assign rfl) rfl rfl fun a E => ?_
  refine wpList_nil ?_
  obtain rfl := Option.some.inj hF
  exact step_n ⟨ok, E.keep [1, 3, 4], (cat_len e101), (InR.inc r35 (pL_InR h4) hc36)⟩

def calqueref08_Print_R (u : World) (m0 : Mem) (S : Segs) (r : (List UInt8) × Int) (a : Act) (w : World) : Prop :=
  Ok u m0 S w ∧ a.defers = [] ∧ RVs Tryz.prog a w [.t 2 (.string (bs r.1)), .t 3 (.int .i64 r.2)] ∧ r.1.length ≤ LIMS ∧ InR .i64 r.2
set_option maxHeartbeats 4000000 in
set_option maxRecDepth 100000 in
theorem calqueref08_Print_w {u : World} {m0 : Mem} {S : Segs} {w : World} (N : Nat) (vc_0 : Value) (c_0 : List (List (Relation))) (hc_0 : (pL 1 (pL 4 pRelation)) m0 [vc_0] c_0) {r : (List UInt8) × Int} (hF : calqueref08_Print N c_0 = some r) (hG : Glob u) (ok : Ok u m0 S w) :
    Calls Tryz.prog 21 [vc_0].toArray w fun e w' => (e = .returned (.tuple [(.string (bs r.1)), (.int .i64 r.2)].toArray) ∧ Ok u m0 S w') ∧ r.1.length ≤ LIMS ∧ InR .i64 r.2 := by
  have hb0 := ok.base
  have le_m0 := Mem.le.refl m0
  unfold calqueref08_Print at hF
  have fin : ∀ a w, calqueref08_Print_R u m0 S r a w → bodyPost Tryz.prog Tryz.f21 (fun e w' => (e = .returned (.tuple [(.string (bs r.1)), (.int .i64 r.2)].toArray) ∧ Ok u m0 S w') ∧ r.1.length ≤ LIMS ∧ InR .i64 r.2) .ret a w := by
    intro a w h
    obtain ⟨ok, hd, hrv, h0, h1⟩ := h
    exact c_ret2 [.t 2 (.string (bs r.1)), .t 3 (.int .i64 r.2)] hd rfl hrv ⟨⟨rfl, ok⟩, h0, h1⟩
  refine enter Tryz.func21 rfl rfl rfl fun a E => ?_
  refine wp_seq ?_
  refine c_region ?_
  refine l_val E ok (y_assign rfl) rfl rfl fun a E => ?_
  refine l_val E ok (y_assign rfl) rfl rfl fun a E => ?_
  refine wpList_nil ?_
  refine t_norm ?_
  refine wp_seq ?_
  refine wp_seq ?_
  refine c_region ?_
  refine l_val E ok (y_move rfl) rfl rfl fun a E => ?_
  obtain ⟨r1, e2, hF⟩ := bnd hF
  refine l_call E go_13 rfl (calqueref08_Valid_w N _ c_0 hc_0 e2 hG ok) rfl rfl ?_
  rintro _ w ⟨rfl, ok⟩
  refine ⟨_, rfl, fun a E => ?_⟩
  refine l_val E ok (y_not rfl) rfl rfl fun a E => ?_
  refine wpList_nil ?_
  refine t_norm ?_
  refine c_if E rfl (fun hc3 => ?_) (fun hc3 => ?_)
  · replace hF := cond_t hc3 hF
    refine wp_seq ?_
    refine c_region ?_
    refine l_val E ok (y_assign rfl) rfl rfl fun a E => ?_
    refine l_val E ok (y_assign rfl) rfl rfl fun a E => ?_
    refine wpList_nil ?_
    refine t_norm ?_
    refine wp_ret ?_
    refine t_ret ?_
    have hret : calqueref08_Print_R u m0 S ([], 1) a w := ⟨ok, E.d, ⟨rv_t E rfl, rv_t E rfl, trivial⟩, (show ([] : List UInt8).length ≤ LIMS by decide), (show InR .i64 (1) by decide)⟩
    obtain rfl := Option.some.inj hF
    exact fin _ _ hret
  replace hF := cond_f hc3 hF
  refine wp_skip ?_
  refine t_norm ?_
  refine wp_seq ?_
  refine c_region ?_
  refine l_val E ok (y_assign rfl) rfl rfl fun a E => ?_
  refine wpList_nil ?_
  refine t_norm ?_
  refine wp_seq ?_
  refine wp_seq ?_
  refine c_region ?_
  refine l_val E ok (y_assign rfl) rfl rfl fun a E => ?_
  refine wpList_nil ?_
  refine t_norm ?_
  refine wp_block ?_
  obtain ⟨o6, hL, hF⟩ := bnd hF
  refine c_loop _ (fun (s : (List UInt8) × Int) a w => Ok u m0 (S) w ∧ Env 44 a [(0, vc_0), (4, (Value.string (bs s.1))), (5, (Value.int .i64 s.2))] ∧ s.1.length ≤ LIMS ∧ InR .i64 s.2) (fun (b : ((List UInt8))) e a w => e = (.exit 0) ∧ Ok u m0 (S) w ∧ Env 44 a [(4, (Value.string (bs b)))] ∧ b.length ≤ LIMS) ?_ ?_ N _ a w hL ⟨ok, E.keep [0, 4, 5], (show ([] : List UInt8).length ≤ LIMS by decide), (show InR .i64 (0) by decide)⟩
  rotate_left
  · intro e a w _ hO
    obtain ⟨rfl, ok, E, l78⟩ := hO
    refine b_hit ?_
    refine t_norm ?_
    refine wp_seq ?_
    refine c_region ?_
    refine l_val E ok (y_move rfl) rfl rfl fun a E => ?_
    refine l_val E ok (y_assign rfl) rfl rfl fun a E => ?_
    refine l_val E ok (y_assign rfl) rfl rfl fun a E => ?_
    refine wpList_nil ?_
    refine t_norm ?_
    refine wp_ret ?_
    have hret : calqueref08_Print_R u m0 S (o6, 0) a w := ⟨ok, E.d, ⟨rv_t E rfl, rv_t E rfl, trivial⟩, l78, (show InR .i64 (0) by decide)⟩
    obtain rfl := Option.some.inj hF
    exact fin _ _ hret
  rintro ⟨s_9, i_10⟩ a w r ⟨ok, E, l11, r12⟩ hF
  replace hF : calqueref08_Print_b1 N c_0 s_9 i_10 = some r := hF
  unfold calqueref08_Print_b1 at hF
  refine wp_seq ?_
  refine wp_seq ?_
  refine c_region ?_
  refine l_val E ok (y_move rfl) rfl rfl fun a E => ?_
  refine l_val E ok (y_move rfl) rfl rfl fun a E => ?_
  refine l_val E ok (y_lenL sl_23 hc_0 rfl) rfl rfl fun a E => ?_
  refine l_val E ok (y_lss rfl rfl) rfl rfl fun a E => ?_
  refine wpList_nil ?_
  refine t_norm ?_
  refine c_if E rfl (fun hc13 => ?_) (fun hc13 => ?_)
  rotate_left
  · replace hF := cond_f hc13 hF
    refine wp_exit ?_
    refine t_exit ?_
    obtain rfl := Option.some.inj hF
    exact step_o (by nofun) (⟨rfl, ⟨ok, E.keep [4], l11⟩⟩)
  replace hF := cond_t hc13 hF
  refine wp_skip ?_
  refine t_norm ?_
  refine wp_seq ?_
  refine wp_block ?_
  refine wp_seq ?_
  refine wp_seq ?_
  refine c_region ?_
  refine l_val E ok (y_move rfl) rfl rfl fun a E => ?_
  refine l_val E ok (y_gtr rfl rfl) rfl rfl fun a E => ?_
  refine wpList_nil ?_
  refine t_norm ?_
  obtain ⟨o14, hJ, hF⟩ := bnd hF
  refine c_mono (Q' := fun e a w => e = .normal ∧ Ok u m0 (S) w ∧ Env 44 a [(0, vc_0), (4, (Value.string (bs o14))), (5, (Value.int .i64 i_10))] ∧ o14.length ≤ LIMS) ?_ ?_
  · replace hF := hJ
    clear hJ
    refine c_if E rfl (fun hc16 => ?_) (fun hc16 => ?_)
    rotate_left
    · replace hF := cond_f hc16 hF
      refine wp_skip ?_
      obtain rfl := Option.some.inj hF
      exact ⟨rfl, ⟨ok, E.keep [0, 4, 5], l11⟩⟩
    replace hF := cond_t hc16 hF
    refine c_region ?_
    refine l_val E ok (y_move rfl) rfl rfl fun a E => ?_
    obtain ⟨s17, e18, hF⟩ := bnd hF
    refine l_val E ok (y_cat rfl rfl e18) rfl rfl fun a E => ?_
    refine l_val E ok (y_assign rfl) rfl rfl fun a E => ?_
    refine wpList_nil ?_
    obtain rfl := Option.some.inj hF
    exact ⟨rfl, ⟨ok, E.keep [0, 4, 5], (cat_len e18)⟩⟩
  clear hJ
  intro e a w hO
  obtain ⟨rfl, ok, E, l19⟩ := hO
  refine t_norm ?_
  refine wp_seq ?_
  refine c_region ?_
  refine l_val E ok (y_assign rfl) rfl rfl fun a E => ?_
  refine wpList_nil ?_
  refine t_norm ?_
  refine wp_block ?_
  obtain ⟨o22, hL, hF⟩ := bnd hF
  refine c_loop _ (fun (s : (List UInt8) × Int) a w => Ok u m0 (S) w ∧ Env 44 a [(0, vc_0), (4, (Value.string (bs s.1))), (5, (Value.int .i64 i_10)), (6, (Value.int .i64 s.2))] ∧ s.1.length ≤ LIMS ∧ InR .i64 s.2) (fun (b : ((List UInt8))) e a w => e = (.exit 2) ∧ Ok u m0 (S) w ∧ Env 44 a [(0, vc_0), (4, (Value.string (bs b))), (5, (Value.int .i64 i_10))] ∧ b.length ≤ LIMS) ?_ ?_ N _ a w hL ⟨ok, E.keep [0, 4, 5, 6], l19, (show InR .i64 (0) by decide)⟩
  rotate_left
  · intro e a w _ hO
    obtain ⟨rfl, ok, E, l76⟩ := hO
    refine b_hit ?_
    refine b_norm ?_
    refine t_norm ?_
    refine c_region ?_
    refine l_val E ok (y_move rfl) rfl rfl fun a E => ?_
    refine l_val E ok (y_add rfl rfl (InR.inc r12 (pL_InR hc_0) hc13)) rfl rfl fun a E => ?_
    refine l_val E ok (y_assign rfl) rfl rfl fun a E => ?_
    refine wpList_nil ?_
    obtain rfl := Option.some.inj hF
    exact step_n ⟨ok, E.keep [0, 4, 5], l76, (InR.inc r12 (pL_InR hc_0) hc13)⟩
  rintro ⟨s_25, k_26⟩ a w r ⟨ok, E, l27, r28⟩ hF
  replace hF : calqueref08_Print_b2 N c_0 i_10 s_25 k_26 = some r := hF
  unfold calqueref08_Print_b2 at hF
  refine wp_seq ?_
  refine wp_seq ?_
  refine c_region ?_
  refine l_val E ok (y_move rfl) rfl rfl fun a E => ?_
  refine l_val E ok (y_move rfl) rfl rfl fun a E => ?_
  refine l_val E ok (y_move rfl) rfl rfl fun a E => ?_
  obtain ⟨x29, e30, hF⟩ := bnd hF
  obtain ⟨b31, o32, es33, hl34, rr35, at36, yy37⟩ := idxAt sl_23 hc_0 e30 (P := Tryz.prog) (X := .tmp 21) (I := .tmp 22) (kd := .i64) (ev_of E rfl) (ev_of E rfl)
  obtain ⟨c38, rfl, h39⟩ := pL_cell rr35
  refine l_val E ok (yy37 _ _) rfl rfl fun a E => ?_
  refine l_val E ok (y_load one_34 rfl (Holds.ro at36)) rfl rfl fun a E => ?_
  refine l_val E ok (y_lenL sl_34 h39 rfl) rfl rfl fun a E => ?_
  refine l_val E ok (y_lss rfl rfl) rfl rfl fun a E => ?_
  refine wpList_nil ?_
  refine t_norm ?_
  refine c_if E rfl (fun hc40 => ?_) (fun hc40 => ?_)
  rotate_left
  · replace hF := cond_f hc40 hF
    refine wp_exit ?_
    refine t_exit ?_
    obtain rfl := Option.some.inj hF
    exact step_o (by nofun) (⟨rfl, ⟨ok, E.keep [0, 4, 5], l27⟩⟩)
  replace hF := cond_t hc40 hF
  refine wp_skip ?_
  refine t_norm ?_
  refine wp_seq ?_
  refine wp_block ?_
  refine wp_seq ?_
  refine wp_seq ?_
  refine c_region ?_
  refine l_val E ok (y_move rfl) rfl rfl fun a E => ?_
  refine l_val E ok (y_gtr rfl rfl) rfl rfl fun a E => ?_
  refine wpList_nil ?_
  refine t_norm ?_
  obtain ⟨o41, hJ, hF⟩ := bnd hF
  refine c_mono (Q' := fun e a w => e = .normal ∧ Ok u m0 (S) w ∧ Env 44 a [(0, vc_0), (4, (Value.string (bs o41))), (5, (Value.int .i64 i_10)), (6, (Value.int .i64 k_26))] ∧ o41.length ≤ LIMS) ?_ ?_
  · replace hF := hJ
    clear hJ
    refine c_if E rfl (fun hc43 => ?_) (fun hc43 => ?_)
    rotate_left
    · replace hF := cond_f hc43 hF
      refine wp_skip ?_
      obtain rfl := Option.some.inj hF
      exact ⟨rfl, ⟨ok, E.keep [0, 4, 5, 6], l27⟩⟩
    replace hF := cond_t hc43 hF
    refine c_region ?_
    refine l_val E ok (y_move rfl) rfl rfl fun a E => ?_
    obtain ⟨s44, e45, hF⟩ := bnd hF
    refine l_val E ok (y_cat rfl rfl e45) rfl rfl fun a E => ?_
    refine l_val E ok (y_assign rfl) rfl rfl fun a E => ?_
    refine wpList_nil ?_
    obtain rfl := Option.some.inj hF
    exact ⟨rfl, ⟨ok, E.keep [0, 4, 5, 6], (cat_len e45)⟩⟩
  clear hJ
  intro e a w hO
  obtain ⟨rfl, ok, E, l46⟩ := hO
  refine t_norm ?_
  refine c_region ?_
  refine l_val E ok (y_move rfl) rfl rfl fun a E => ?_
  refine l_val E ok (y_move rfl) rfl rfl fun a E => ?_
  refine l_val E ok (y_move rfl) rfl rfl fun a E => ?_
  obtain ⟨x47, e48, hF⟩ := bnd hF
  obtain ⟨b49, o50, es51, hl52, rr53, at54, yy55⟩ := idxAt sl_23 hc_0 e48 (P := Tryz.prog) (X := .tmp 34) (I := .tmp 35) (kd := .i64) (ev_of E rfl) (ev_of E rfl)
  obtain ⟨c56, rfl, h57⟩ := pL_cell rr53
  refine l_val E ok (yy55 _ _) rfl rfl fun a E => ?_
  refine l_val E ok (y_load one_34 rfl (Holds.ro at54)) rfl rfl fun a E => ?_
  refine l_val E ok (y_move rfl) rfl rfl fun a E => ?_
  obtain ⟨x58, e59, hF⟩ := bnd hF
  obtain ⟨b60, o61, es62, hl63, rr64, at65, yy66⟩ := idxAt sl_34 h57 e59 (P := Tryz.prog) (X := .tmp 37) (I := .tmp 38) (kd := .i64) (ev_of E rfl) (ev_of E rfl)
  obtain ⟨c69, rfl, r67, r68, h70⟩ := rr64
  refine l_val E ok (yy66 _ _) rfl rfl fun a E => ?_
  refine l_val E ok (y_loadAgg (cs := [(Value.int .i64 x58.Operand), (Value.int .i64 x58.Mod), (Value.bool x58.Not), c69]) agg_33 rfl rfl (Holds.ro at65)) rfl rfl fun a E => ?_
  obtain ⟨r71, e72, hF⟩ := bnd hF
  refine l_call E go_42 rfl (calqueref08_relation_w N _ x58 ⟨_, rfl, r67, r68, h70⟩ e72 hG ok) rfl rfl ?_
  rintro _ w ⟨⟨rfl, ok⟩, l73⟩
  refine ⟨_, rfl, fun a E => ?_⟩
  obtain ⟨s74, e75, hF⟩ := bnd hF
  refine l_val E ok (y_cat rfl rfl e75) rfl rfl fun a E => ?_
  refine l_val E ok (y_assign rfl) rfl rfl fun a E => ?_
  refine wpList_nil ?_
  refine b_norm ?_
  refine t_norm ?_
  refine c_region ?_
  refine l_val E ok (y_move rfl) rfl rfl fun a E => ?_
  refine l_val E ok (y_add rfl rfl (InR.inc r28 (pL_InR h39) hc40)) rfl rfl fun a E => ?_
  refine l_val E ok (y_assign rfl) rfl rfl fun a E => ?_
  refine wpList_nil ?_
  obtain rfl := Option.some.inj hF
  exact step_n ⟨ok, E.keep [0, 4, 5, 6], (cat_len e75), (InR.inc r28 (pL_InR h39) hc40)⟩

def slices_Equal_api_Span_api_Span_R (u : World) (m0 : Mem) (S : Segs) (r : Bool) (a : Act) (w : World) : Prop :=
  Ok u m0 S w ∧ a.defers = [] ∧ RVs Tryz.prog a w [.t 4 (.bool r)]
set_option maxHeartbeats 4000000 in
set_option maxRecDepth 100000 in
theorem slices_Equal_api_Span_api_Span_w {u : World} {m0 : Mem} {S : Segs} {w : World} (N : Nat) (vs1_0 : Value) (s1_0 : List (Span)) (hs1_0 : (pL 2 pSpan) m0 [vs1_0] s1_0) (vs2_1 : Value) (s2_1 : List (Span)) (hs2_1 : (pL 2 pSpan) m0 [vs2_1] s2_1) {r : Bool} (hF : slices_Equal_api_Span_api_Span N s1_0 s2_1 = some r) (hG : Glob u) (ok : Ok u m0 S w) :
    Calls Tryz.prog 49 [vs1_0, vs2_1].toArray w fun e w' => (e = .returned (.bool r) ∧ Ok u m0 S w') := by
  have hb0 := ok.base
  have le_m0 := Mem.le.refl m0
  unfold slices_Equal_api_Span_api_Span at hF
  have fin : ∀ a w, slices_Equal_api_Span_api_Span_R u m0 S r a w → bodyPost Tryz.prog Tryz.f49 (fun e w' => (e = .returned (.bool r) ∧ Ok u m0 S w')) .ret a w := by
    intro a w h
    obtain ⟨ok, hd, hrv⟩ := h
    exact c_ret2 [.t 4 (.bool r)] hd rfl hrv ⟨rfl, ok⟩
  refine enter Tryz.func49 rfl rfl rfl fun a E => ?_
  refine wp_seq ?_
  refine c_region ?_
  refine l_val E ok (y_assign rfl) rfl rfl fun a E => ?_
  refine wpList_nil ?_
  refine t_norm ?_
  refine wp_seq ?_
  refine wp_seq ?_
  refine c_region ?_
  refine l_val E ok (y_move rfl) rfl rfl fun a E => ?_
  refine l_val E ok (y_lenL sl_31 hs1_0 rfl) rfl rfl fun a E => ?_
  refine l_val E ok (y_move rfl) rfl rfl fun a E => ?_
  refine l_val E ok (y_lenL sl_31 hs2_1 rfl) rfl rfl fun a E => ?_
  refine l_val E ok (y_neq rfl rfl) rfl rfl fun a E => ?_
  refine wpList_nil ?_
  refine t_norm ?_
  refine c_if E rfl (fun hc1 => ?_) (fun hc1 => ?_)
  · replace hF := cond_t hc1 hF
    refine wp_seq ?_
    refine c_region ?_
    refine l_val E ok (y_assign rfl) rfl rfl fun a E => ?_
    refine wpList_nil ?_
    refine t_norm ?_
    refine wp_ret ?_
    refine t_ret ?_
    have hret : slices_Equal_api_Span_api_Span_R u m0 S false a w := ⟨ok, E.d, ⟨rv_t E rfl, trivial⟩⟩
    obtain rfl := Option.some.inj hF
    exact fin _ _ hret
  replace hF := cond_f hc1 hF
  refine wp_skip ?_
  refine t_norm ?_
  refine wp_seq ?_
  refine wp_seq ?_
  refine c_region ?_
  refine l_val E ok (y_move rfl) rfl rfl fun a E => ?_
  refine l_val E ok (y_lenL sl_31 hs1_0 rfl) rfl rfl fun a E => ?_
  refine l_val E ok (y_move rfl) rfl rfl fun a E => ?_
  refine wpList_nil ?_
  refine t_norm ?_
  refine wp_block ?_
  obtain ⟨o3, hL, hF⟩ := bnd hF
  refine c_loop _ (fun (s : Int) a w => Ok u m0 (S) w ∧ Env 26 a [(0, vs1_0), (1, vs2_1), (12, (Value.int .i64 (s1_0.length : Int))), (13, (Value.int .i64 s))] ∧ InR .i64 s) (fun (b : (Unit ⊕ Bool)) e a w => (Sum.elim (fun b31 => e = (.exit 0) ∧ Ok u m0 (S) w ∧ Env 26 a []) (fun b32 => e = .ret ∧ slices_Equal_api_Span_api_Span_R u m0 S b32 a w)) b) ?_ ?_ N _ a w hL ⟨ok, E.keep [0, 1, 12, 13], (show InR .i64 (0) by decide)⟩
  rotate_left
  · intro e a w _ hO
    rcases o3 with o3 | o3
    rotate_left
    · replace hF := elim_r hF
      obtain ⟨rfl, hret⟩ := hO
      refine b_ret ?_
      refine t_ret ?_
      obtain rfl := Option.some.inj hF
      exact fin _ _ hret
    replace hF := elim_l hF
    obtain ⟨rfl, ok, E⟩ := hO
    refine b_hit ?_
    refine t_norm ?_
    refine wp_seq ?_
    refine c_region ?_
    refine l_val E ok (y_assign rfl) rfl rfl fun a E => ?_
    refine wpList_nil ?_
    refine t_norm ?_
    refine wp_ret ?_
    have hret : slices_Equal_api_Span_api_Span_R u m0 S true a w := ⟨ok, E.d, ⟨rv_t E rfl, trivial⟩⟩
    obtain rfl := Option.some.inj hF
    exact fin _ _ hret
  rintro x_5 a w r ⟨ok, E, r6⟩ hF
  replace hF : slices_Equal_api_Span_api_Span_b1 N s1_0 s2_1 x_5 = some r := hF
  unfold slices_Equal_api_Span_api_Span_b1 at hF
  refine wp_seq ?_
  refine c_region ?_
  refine l_val E ok (y_lss rfl rfl) rfl rfl fun a E => ?_
  refine wpList_nil ?_
  refine t_norm ?_
  refine wp_seq ?_
  refine c_if E rfl (fun hc7 => ?_) (fun hc7 => ?_)
  rotate_left
  · replace hF := cond_f hc7 hF
    refine wp_exit ?_
    refine t_exit ?_
    obtain rfl := Option.some.inj hF
    exact step_o (by nofun) (sl ⟨rfl, ⟨ok, E.keep []⟩⟩)
  replace hF := cond_t hc7 hF
  refine wp_skip ?_
  refine t_norm ?_
  refine wp_seq ?_
  refine wp_block ?_
  refine wp_seq ?_
  refine c_region ?_
  refine l_val E ok (y_move rfl) rfl rfl fun a E => ?_
  refine l_val E ok (y_assign rfl) rfl rfl fun a E => ?_
  refine wpList_nil ?_
  refine t_norm ?_
  refine wp_seq ?_
  refine c_draw (by kernel_rfl) (by kernel_rfl) ok ?_
  refine q_val E (y_move rfl) rfl rfl fun a E => ?_
  refine q_val E (y_move rfl) rfl rfl fun a E => ?_
  obtain ⟨x8, e9, hF⟩ := bnd hF
  obtain ⟨b10, o11, es12, hl13, rr14, at15, yy16⟩ := idxAt sl_31 hs1_0 e9 (P := Tryz.prog) (X := .tmp 16) (I := .tmp 17) (kd := .i64) (ev_of E rfl) (ev_of E rfl)
  obtain ⟨rfl, r17, r18⟩ := rr14
  refine q_val E (yy16 _ _) rfl rfl fun a E => ?_
  refine q_val E (y_loadAgg (cs := [(Value.int .i64 x8.From), (Value.int .i64 x8.To)]) agg_37 rfl rfl (Holds.ro at15)) rfl rfl fun a E => ?_
  refine q_val E (y_move rfl) rfl rfl fun a E => ?_
  refine q_val E (y_move rfl) rfl rfl fun a E => ?_
  obtain ⟨x19, e20, hF⟩ := bnd hF
  obtain ⟨b21, o22, es23, hl24, rr25, at26, yy27⟩ := idxAt sl_31 hs2_1 e20 (P := Tryz.prog) (X := .tmp 20) (I := .tmp 21) (kd := .i64) (ev_of E rfl) (ev_of E rfl)
  obtain ⟨rfl, r28, r29⟩ := rr25
  refine q_val E (yy27 _ _) rfl rfl fun a E => ?_
  refine q_val E (y_loadAgg (cs := [(Value.int .i64 x19.From), (Value.int .i64 x19.To)]) agg_37 rfl rfl (Holds.ro at26)) rfl rfl fun a E => ?_
  refine q_val E (y_aneq eqg_37 (eqv_struct Tryz.underlying37 stood_37 (eqfs_step (by decide) (part_one one_3 rfl) (part_one one_3 rfl) (eqv_int Tryz.underlying3) (eqfs_last (by decide) (part_one one_3 rfl) (part_one one_3 rfl) (eqv_int Tryz.underlying3)))) rfl rfl) rfl rfl fun a E => ?_
  refine wpQuiet_nil ?_
  intro w ok
  refine t_norm ?_
  refine c_if E rfl (fun hc30 => ?_) (fun hc30 => ?_)
  rotate_left
  · replace hF := cond_f hc30 hF
    refine wp_skip ?_
    refine b_norm ?_
    refine t_norm ?_
    refine c_region ?_
    refine l_val E ok (y_add rfl rfl (InR.inc r6 (pL_InR hs1_0) hc7)) rfl rfl fun a E => ?_
    refine l_val E ok (y_move rfl) rfl rfl fun a E => ?_
    refine wpList_nil ?_
    obtain rfl := Option.some.inj hF
    exact step_n ⟨ok, E.keep [0, 1, 12, 13], (InR.inc r6 (pL_InR hs1_0) hc7)⟩
  replace hF := cond_t hc30 hF
  refine wp_seq ?_
  refine c_region ?_
  refine l_val E ok (y_assign rfl) rfl rfl fun a E => ?_
  refine wpList_nil ?_
  refine t_norm ?_
  refine wp_ret ?_
  refine b_ret ?_
  refine t_ret ?_
  have hret : slices_Equal_api_Span_api_Span_R u m0 S false a w := ⟨ok, E.d, ⟨rv_t E rfl, trivial⟩⟩
  obtain rfl := Option.some.inj hF
  exact step_o (by nofun) (sr ⟨rfl, hret⟩)

def condition_Equal_1_1_R (u : World) (m0 : Mem) (S : Segs) (r : Bool) (a : Act) (w : World) : Prop :=
  Ok u m0 S w ∧ a.defers = [] ∧ RVs Tryz.prog a w [.t 4 (.bool r)]
set_option maxHeartbeats 4000000 in
set_option maxRecDepth 100000 in
theorem condition_Equal_1_1_w {u : World} {m0 : Mem} {S : Segs} {w : World} (N : Nat) (vr_0 : List Value) (r_0 : Relation) (hr_0 : pRelation m0 vr_0 r_0) (vs_1 : List Value) (s_1 : Relation) (hs_1 : pRelation m0 vs_1 s_1) {r : Bool} (hF : condition_Equal_1_1 N r_0 s_1 = some r) (hG : Glob u) (ok : Ok u m0 S w) :
    Calls Tryz.prog 48 [.agg vr_0.toArray, .agg vs_1.toArray].toArray w fun e w' => (e = .returned (.bool r) ∧ Ok u m0 S w') := by
  obtain ⟨c3, rfl, r1, r2, h4⟩ := hr_0
  obtain ⟨c7, rfl, r5, r6, h8⟩ := hs_1
  have hb0 := ok.base
  have le_m0 := Mem.le.refl m0
  unfold condition_Equal_1_1 at hF
  have fin : ∀ a w, condition_Equal_1_1_R u m0 S r a w → bodyPost Tryz.prog Tryz.f48 (fun e w' => (e = .returned (.bool r) ∧ Ok u m0 S w')) .ret a w := by
    intro a w h
    obtain ⟨ok, hd, hrv⟩ := h
    exact c_ret2 [.t 4 (.bool r)] hd rfl hrv ⟨rfl, ok⟩
  refine enter Tryz.func48 rfl rfl rfl fun a E => ?_
  refine wp_seq ?_
  refine c_region ?_
  refine l_box E ok rfl rfl rfl fun b9 a w E ok => ?_
  refine l_box E ok rfl rfl rfl fun b10 a w E ok => ?_
  refine l_val E ok (y_assign rfl) rfl rfl fun a E => ?_
  refine wpList_nil ?_
  refine t_norm ?_
  refine wp_seq ?_
  refine c_region ?_
  refine l_val E ok (y_fieldAddr fo_33_0 rfl) rfl rfl fun a E => ?_
  refine l_val E ok (y_load one_3 rfl (Holds.own 1 rfl rfl)) rfl rfl fun a E => ?_
  refine l_val E ok (y_fieldAddr fo_33_0 rfl) rfl rfl fun a E => ?_
  refine l_val E ok (y_load one_3 rfl (Holds.own 0 rfl rfl)) rfl rfl fun a E => ?_
  refine l_val E ok (y_eql rfl rfl) rfl rfl fun a E => ?_
  refine l_val E ok (y_move rfl) rfl rfl fun a E => ?_
  refine bsplit (r_0.Operand == s_1.Operand) (fun hc11 => ?_) (fun hc11 => ?_)
  rotate_left
  · replace hF := cond_f hc11 hF
    replace E := E.upd 10 hc11 rfl
    refine l_skip E rfl rfl fun a E => ?_
    refine l_skip E rfl rfl fun a E => ?_
    refine l_skip E rfl rfl fun a E => ?_
    refine l_skip E rfl rfl fun a E => ?_
    refine l_skip E rfl rfl fun a E => ?_
    refine l_val E ok (y_pickF rfl rfl) rfl rfl fun a E => ?_
    refine l_val E ok (y_move rfl) rfl rfl fun a E => ?_
    refine l_skip E rfl rfl fun a E => ?_
    refine l_skip E rfl rfl fun a E => ?_
    refine l_skip E rfl rfl fun a E => ?_
    refine l_skip E rfl rfl fun a E => ?_
    refine l_skip E rfl rfl fun a E => ?_
    refine l_val E ok (y_pickF rfl rfl) rfl rfl fun a E => ?_
    refine l_val E ok (y_move rfl) rfl rfl fun a E => ?_
    refine l_skip E rfl rfl fun a E => ?_
    refine l_skip E rfl rfl fun a E => ?_
    refine l_skip E rfl rfl fun a E => ?_
    refine l_skip E rfl rfl fun a E => ?_
    refine l_skip E rfl rfl fun a E => ?_
    refine l_val E ok (y_pickF rfl rfl) rfl rfl fun a E => ?_
    refine l_val E ok (y_assign rfl) rfl rfl fun a E => ?_
    refine wpList_nil ?_
    refine t_norm ?_
    refine wp_ret ?_
    have hret : condition_Equal_1_1_R u m0 S false a w := ⟨ok.drop.drop, E.d, ⟨rv_t E rfl, trivial⟩⟩
    obtain rfl := Option.some.inj hF
    exact fin _ _ hret
  replace hF := cond_t hc11 hF
  replace E := E.upd 10 hc11 rfl
  refine l_val E ok (y_fieldAddr fo_33_1 rfl) rfl rfl fun a E => ?_
  refine l_val E ok (y_load one_3 rfl (Holds.own 1 rfl rfl)) rfl rfl fun a E => ?_
  refine l_val E ok (y_fieldAddr fo_33_1 rfl) rfl rfl fun a E => ?_
  refine l_val E ok (y_load one_3 rfl (Holds.own 0 rfl rfl)) rfl rfl fun a E => ?_
  refine l_val E ok (y_eql rfl rfl) rfl rfl fun a E => ?_
  refine l_val E ok (y_pickT rfl rfl) rfl rfl fun a E => ?_
  refine l_val E ok (y_move rfl) rfl rfl fun a E => ?_
  refine bsplit (r_0.Mod == s_1.Mod) (fun hc12 => ?_) (fun hc12 => ?_)
  rotate_left
  · replace hF := cond_f hc12 hF
    replace E := E.upd 17 hc12 rfl
    refine l_skip E rfl rfl fun a E => ?_
    refine l_skip E rfl rfl fun a E => ?_
    refine l_skip E rfl rfl fun a E => ?_
    refine l_skip E rfl rfl fun a E => ?_
    refine l_skip E rfl rfl fun a E => ?_
    refine l_val E ok (y_pickF rfl rfl) rfl rfl fun a E => ?_
    refine l_val E ok (y_move rfl) rfl rfl fun a E => ?_
    refine l_skip E rfl rfl fun a E => ?_
    refine l_skip E rfl rfl fun a E => ?_
    refine l_skip E rfl rfl fun a E => ?_
    refine l_skip E rfl rfl fun a E => ?_
    refine l_skip E rfl rfl fun a E => ?_
    refine l_val E ok (y_pickF rfl rfl) rfl rfl fun a E => ?_
    refine l_val E ok (y_assign rfl) rfl rfl fun a E => ?_
    refine wpList_nil ?_
    refine t_norm ?_
    refine wp_ret ?_
    have hret : condition_Equal_1_1_R u m0 S false a w := ⟨ok.drop.drop, E.d, ⟨rv_t E rfl, trivial⟩⟩
    obtain rfl := Option.some.inj hF
    exact fin _ _ hret
  replace hF := cond_t hc12 hF
  replace E := E.upd 17 hc12 rfl
  refine l_val E ok (y_fieldAddr fo_33_2 rfl) rfl rfl fun a E => ?_
  refine l_val E ok (y_load one_4 rfl (Holds.own 1 rfl rfl)) rfl rfl fun a E => ?_
  refine l_val E ok (y_fieldAddr fo_33_2 rfl) rfl rfl fun a E => ?_
  refine l_val E ok (y_load one_4 rfl (Holds.own 0 rfl rfl)) rfl rfl fun a E => ?_
  refine l_val E ok (y_beql Tryz.underlying4 rfl rfl) rfl rfl fun a E => ?_
  refine l_val E ok (y_pickT rfl rfl) rfl rfl fun a E => ?_
  refine l_val E ok (y_move rfl) rfl rfl fun a E => ?_
  refine bsplit (r_0.Not == s_1.Not) (fun hc13 => ?_) (fun hc13 => ?_)
  rotate_left
  · replace hF := cond_f hc13 hF
    replace E := E.upd 24 hc13 rfl
    refine l_skip E rfl rfl fun a E => ?_
    refine l_skip E rfl rfl fun a E => ?_
    refine l_skip E rfl rfl fun a E => ?_
    refine l_skip E rfl rfl fun a E => ?_
    refine l_skip E rfl rfl fun a E => ?_
    refine l_val E ok (y_pickF rfl rfl) rfl rfl fun a E => ?_
    refine l_val E ok (y_assign rfl) rfl rfl fun a E => ?_
    refine wpList_nil ?_
    refine t_norm ?_
    refine wp_ret ?_
    have hret : condition_Equal_1_1_R u m0 S false a w := ⟨ok.drop.drop, E.d, ⟨rv_t E rfl, trivial⟩⟩
    obtain rfl := Option.some.inj hF
    exact fin _ _ hret
  replace hF := cond_t hc13 hF
  replace E := E.upd 24 hc13 rfl
  refine l_val E ok (y_fieldAddr fo_33_3 rfl) rfl rfl fun a E => ?_
  refine l_val E ok (y_load one_31 rfl (Holds.own 1 rfl rfl)) rfl rfl fun a E => ?_
  refine l_val E ok (y_fieldAddr fo_33_3 rfl) rfl rfl fun a E => ?_
  refine l_val E ok (y_load one_31 rfl (Holds.own 0 rfl rfl)) rfl rfl fun a E => ?_
  obtain ⟨r14, e15, hF⟩ := bnd hF
  refine l_call E go_49 rfl (slices_Equal_api_Span_api_Span_w N _ r_0.Spans h4 _ s_1.Spans h8 e15 hG ok) rfl rfl ?_
  rintro _ w ⟨rfl, ok⟩
  refine ⟨_, rfl, fun a E => ?_⟩
  refine l_val E ok (y_pickT rfl rfl) rfl rfl fun a E => ?_
  refine l_val E ok (y_assign rfl) rfl rfl fun a E => ?_
  refine wpList_nil ?_
  refine t_norm ?_
  refine wp_ret ?_
  have hret : condition_Equal_1_1_R u m0 S r14 a w := ⟨ok.drop.drop, E.d, ⟨rv_t E rfl, trivial⟩⟩
  obtain rfl := Option.some.inj hF
  exact fin _ _ hret

def slices_EqualFunc_api_Relation_api_Relation_api_Relation_api_Relation__48_R (u : World) (m0 : Mem) (S : Segs) (r : Bool) (a : Act) (w : World) : Prop :=
  Ok u m0 S w ∧ a.defers = [] ∧ RVs Tryz.prog a w [.t 6 (.bool r)]
set_option maxHeartbeats 4000000 in
set_option maxRecDepth 100000 in
theorem slices_EqualFunc_api_Relation_api_Relation_api_Relation_api_Relation__48_w {u : World} {m0 : Mem} {S : Segs} {w : World} (N : Nat) (vs1_0 : Value) (s1_0 : List (Relation)) (hs1_0 : (pL 4 pRelation) m0 [vs1_0] s1_0) (vs2_1 : Value) (s2_1 : List (Relation)) (hs2_1 : (pL 4 pRelation) m0 [vs2_1] s2_1) {r : Bool} (hF : slices_EqualFunc_api_Relation_api_Relation_api_Relation_api_Relation__48 N s1_0 s2_1 = some r) (hG : Glob u) (ok : Ok u m0 S w) :
    Calls Tryz.prog 47 [vs1_0, vs2_1, .func (.func 48) #[] #[]].toArray w fun e w' => (e = .returned (.bool r) ∧ Ok u m0 S w') := by
  have hb0 := ok.base
  have le_m0 := Mem.le.refl m0
  unfold slices_EqualFunc_api_Relation_api_Relation_api_Relation_api_Relation__48 at hF
  have fin : ∀ a w, slices_EqualFunc_api_Relation_api_Relation_api_Relation_api_Relation__48_R u m0 S r a w → bodyPost Tryz.prog Tryz.f47 (fun e w' => (e = .returned (.bool r) ∧ Ok u m0 S w')) .ret a w := by
    intro a w h
    obtain ⟨ok, hd, hrv⟩ := h
    exact c_ret2 [.t 6 (.bool r)] hd rfl hrv ⟨rfl, ok⟩
  refine enter Tryz.func47 rfl rfl rfl fun a E => ?_
  refine wp_seq ?_
  refine c_region ?_
  refine l_val E ok (y_assign rfl) rfl rfl fun a E => ?_
  refine wpList_nil ?_
  refine t_norm ?_
  refine wp_seq ?_
  refine wp_seq ?_
  refine c_region ?_
  refine l_val E ok (y_move rfl) rfl rfl fun a E => ?_
  refine l_val E ok (y_lenL sl_34 hs1_0 rfl) rfl rfl fun a E => ?_
  refine l_val E ok (y_move rfl) rfl rfl fun a E => ?_
  refine l_val E ok (y_lenL sl_34 hs2_1 rfl) rfl rfl fun a E => ?_
  refine l_val E ok (y_neq rfl rfl) rfl rfl fun a E => ?_
  refine wpList_nil ?_
  refine t_norm ?_
  refine c_if E rfl (fun hc1 => ?_) (fun hc1 => ?_)
  · replace hF := cond_t hc1 hF
    refine wp_seq ?_
    refine c_region ?_
    refine l_val E ok (y_assign rfl) rfl rfl fun a E => ?_
    refine wpList_nil ?_
    refine t_norm ?_
    refine wp_ret ?_
    refine t_ret ?_
    have hret : slices_EqualFunc_api_Relation_api_Relation_api_Relation_api_Relation__48_R u m0 S false a w := ⟨ok, E.d, ⟨rv_t E rfl, trivial⟩⟩
    obtain rfl := Option.some.inj hF
    exact fin _ _ hret
  replace hF := cond_f hc1 hF
  refine wp_skip ?_
  refine t_norm ?_
  refine wp_seq ?_
  refine wp_seq ?_
  refine c_region ?_
  refine l_val E ok (y_move rfl) rfl rfl fun a E => ?_
  refine l_val E ok (y_lenL sl_34 hs1_0 rfl) rfl rfl fun a E => ?_
  refine l_val E ok (y_move rfl) rfl rfl fun a E => ?_
  refine wpList_nil ?_
  refine t_norm ?_
  refine wp_block ?_
  obtain ⟨o3, hL, hF⟩ := bnd hF
  refine c_loop _ (fun (s : Int) a w => Ok u m0 (S) w ∧ Env 32 a [(1, vs2_1), (2, (Value.func (.func 48) #[] #[])), (15, vs1_0), (16, (Value.int .i64 (s1_0.length : Int))), (17, (Value.int .i64 s))] ∧ InR .i64 s) (fun (b : (Unit ⊕ Bool)) e a w => (Sum.elim (fun b39 => e = (.exit 0) ∧ Ok u m0 (S) w ∧ Env 32 a []) (fun b40 => e = .ret ∧ slices_EqualFunc_api_Relation_api_Relation_api_Relation_api_Relation__48_R u m0 S b40 a w)) b) ?_ ?_ N _ a w hL ⟨ok, E.keep [1, 2, 15, 16, 17], (show InR .i64 (0) by decide)⟩
  rotate_left
  · intro e a w _ hO
    rcases o3 with o3 | o3
    rotate_left
    · replace hF := elim_r hF
      obtain ⟨rfl, hret⟩ := hO
      refine b_ret ?_
      refine t_ret ?_
      obtain rfl := Option.some.inj hF
      exact fin _ _ hret
    replace hF := elim_l hF
    obtain ⟨rfl, ok, E⟩ := hO
    refine b_hit ?_
    refine t_norm ?_
    refine wp_seq ?_
    refine c_region ?_
    refine l_val E ok (y_assign rfl) rfl rfl fun a E => ?_
    refine wpList_nil ?_
    refine t_norm ?_
    refine wp_ret ?_
    have hret : slices_EqualFunc_api_Relation_api_Relation_api_Relation_api_Relation__48_R u m0 S true a w := ⟨ok, E.d, ⟨rv_t E rfl, trivial⟩⟩
    obtain rfl := Option.some.inj hF
    exact fin _ _ hret
  rintro x_5 a w r ⟨ok, E, r6⟩ hF
  replace hF : slices_EqualFunc_api_Relation_api_Relation_api_Relation_api_Relation__48_b1 N s1_0 s2_1 x_5 = some r := hF
  unfold slices_EqualFunc_api_Relation_api_Relation_api_Relation_api_Relation__48_b1 at hF
  refine wp_seq ?_
  refine c_region ?_
  refine l_val E ok (y_lss rfl rfl) rfl rfl fun a E => ?_
  refine wpList_nil ?_
  refine t_norm ?_
  refine wp_seq ?_
  refine c_if E rfl (fun hc7 => ?_) (fun hc7 => ?_)
  rotate_left
  · replace hF := cond_f hc7 hF
    refine wp_exit ?_
    refine t_exit ?_
    obtain rfl := Option.some.inj hF
    exact step_o (by nofun) (sl ⟨rfl, ⟨ok, E.keep []⟩⟩)
  replace hF := cond_t hc7 hF
  refine wp_skip ?_
  refine t_norm ?_
  refine wp_seq ?_
  refine wp_block ?_
  refine wp_seq ?_
  refine c_region ?_
  refine l_val E ok (y_move rfl) rfl rfl fun a E => ?_
  obtain ⟨x8, e9, hF⟩ := bnd hF
  obtain ⟨b10, o11, es12, hl13, rr14, at15, yy16⟩ := idxAt sl_34 hs1_0 e9 (P := Tryz.prog) (X := .tmp 15) (I := .tmp 17) (kd := .i64) (ev_of E rfl) (ev_of E rfl)
  obtain ⟨c19, rfl, r17, r18, h20⟩ := rr14
  refine l_val E ok (yy16 _ _) rfl rfl fun a E => ?_
  refine l_val E ok (y_loadAgg (cs := [(Value.int .i64 x8.Operand), (Value.int .i64 x8.Mod), (Value.bool x8.Not), c19]) agg_33 rfl rfl (Holds.ro at15)) rfl rfl fun a E => ?_
  refine l_alloc E ok zero_33 rfl rfl fun b21 a w E ok => ?_
  refine l_val E ok (y_assign rfl) rfl rfl fun a E => ?_
  refine l_storeB E ok 0 rfl rfl rfl inf_33 rfl rfl ⟨rfl, rfl, rfl, (pL_one h20), trivial⟩ rfl rfl fun w ok => ?_
  refine wpList_nil ?_
  refine t_norm ?_
  refine wp_seq ?_
  refine c_region ?_
  refine l_val E ok (y_move rfl) rfl rfl fun a E => ?_
  refine l_val E ok (y_move rfl) rfl rfl fun a E => ?_
  obtain ⟨x22, e23, hF⟩ := bnd hF
  obtain ⟨b24, o25, es26, hl27, rr28, at29, yy30⟩ := idxAt sl_34 hs2_1 e23 (P := Tryz.prog) (X := .tmp 22) (I := .tmp 23) (kd := .i64) (ev_of E rfl) (ev_of E rfl)
  obtain ⟨c33, rfl, r31, r32, h34⟩ := rr28
  refine l_val E ok (yy30 _ _) rfl rfl fun a E => ?_
  refine l_val E ok (y_loadAgg (cs := [(Value.int .i64 x22.Operand), (Value.int .i64 x22.Mod), (Value.bool x22.Not), c33]) agg_33 rfl rfl (Holds.ro at29)) rfl rfl fun a E => ?_
  refine l_alloc E ok zero_33 rfl rfl fun b35 a w E ok => ?_
  refine l_storeB E ok 0 rfl rfl rfl inf_33 rfl rfl ⟨rfl, rfl, rfl, (pL_one h34), trivial⟩ rfl rfl fun w ok => ?_
  refine wpList_nil ?_
  refine t_norm ?_
  refine wp_seq ?_
  refine c_region ?_
  refine l_val E ok (y_move rfl) rfl rfl fun a E => ?_
  refine l_val E ok (y_loadAgg (cs := [(Value.int .i64 x8.Operand), (Value.int .i64 x8.Mod), (Value.bool x8.Not), c19]) agg_33 rfl rfl (Holds.own 1 rfl rfl)) rfl rfl fun a E => ?_
  refine l_val E ok (y_loadAgg (cs := [(Value.int .i64 x22.Operand), (Value.int .i64 x22.Mod), (Value.bool x22.Not), c33]) agg_33 rfl rfl (Holds.own 0 rfl rfl)) rfl rfl fun a E => ?_
  obtain ⟨r36, e37, hF⟩ := bnd hF
  refine l_callv E rfl go_48 rfl (condition_Equal_1_1_w N _ x8 ⟨_, rfl, r17, r18, h20⟩ _ x22 ⟨_, rfl, r31, r32, h34⟩ e37 hG ok) rfl rfl ?_
  rintro _ w ⟨rfl, ok⟩
  refine ⟨_, rfl, fun a E => ?_⟩
  refine l_val E ok (y_not rfl) rfl rfl fun a E => ?_
  refine wpList_nil ?_
  refine t_norm ?_
  refine c_if E rfl (fun hc38 => ?_) (fun hc38 => ?_)
  rotate_left
  · replace hF := cond_f hc38 hF
    refine wp_skip ?_
    refine b_norm ?_
    refine t_norm ?_
    refine c_region ?_
    refine l_val E ok (y_add rfl rfl (InR.inc r6 (pL_InR hs1_0) hc7)) rfl rfl fun a E => ?_
    refine l_val E ok (y_move rfl) rfl rfl fun a E => ?_
    refine wpList_nil ?_
    obtain rfl := Option.some.inj hF
    exact step_n ⟨(ok.pk 2 [] rfl (by decide)), E.keep [1, 2, 15, 16, 17], (InR.inc r6 (pL_InR hs1_0) hc7)⟩
  replace hF := cond_t hc38 hF
  refine wp_seq ?_
  refine c_region ?_
  refine l_val E ok (y_assign rfl) rfl rfl fun a E => ?_
  refine wpList_nil ?_
  refine t_norm ?_
  refine wp_ret ?_
  refine b_ret ?_
  refine t_ret ?_
  have hret : slices_EqualFunc_api_Relation_api_Relation_api_Relation_api_Relation__48_R u m0 S false a w := ⟨ok.drop.drop, E.d, ⟨rv_t E rfl, trivial⟩⟩
  obtain rfl := Option.some.inj hF
  exact step_o (by nofun) (sr ⟨rfl, hret⟩)

def condition_Equal_1_R (u : World) (m0 : Mem) (S : Segs) (r : Bool) (a : Act) (w : World) : Prop :=
  Ok u m0 S w ∧ a.defers = [] ∧ RVs Tryz.prog a w [.t 4 (.bool r)]
set_option maxHeartbeats 4000000 in
set_option maxRecDepth 100000 in
theorem condition_Equal_1_w {u : World} {m0 : Mem} {S : Segs} {w : World} (N : Nat) (vx_0 : Value) (x_0 : List (Relation)) (hx_0 : (pL 4 pRelation) m0 [vx_0] x_0) (vy_1 : Value) (y_1 : List (Relation)) (hy_1 : (pL 4 pRelation) m0 [vy_1] y_1) {r : Bool} (hF : condition_Equal_1 N x_0 y_1 = some r) (hG : Glob u) (ok : Ok u m0 S w) :
    Calls Tryz.prog 46 [vx_0, vy_1].toArray w fun e w' => (e = .returned (.bool r) ∧ Ok u m0 S w') := by
  have hb0 := ok.base
  have le_m0 := Mem.le.refl m0
  unfold condition_Equal_1 at hF
  have fin : ∀ a w, condition_Equal_1_R u m0 S r a w → bodyPost Tryz.prog Tryz.f46 (fun e w' => (e = .returned (.bool r) ∧ Ok u m0 S w')) .ret a w := by
    intro a w h
    obtain ⟨ok, hd, hrv⟩ := h
    exact c_ret2 [.t 4 (.bool r)] hd rfl hrv ⟨rfl, ok⟩
  refine enter Tryz.func46 rfl rfl rfl fun a E => ?_
  refine wp_seq ?_
  refine c_region ?_
  refine l_val E ok (y_assign rfl) rfl rfl fun a E => ?_
  refine wpList_nil ?_
  refine t_norm ?_
  refine wp_seq ?_
  refine c_region ?_
  refine l_val E ok (y_move rfl) rfl rfl fun a E => ?_
  refine l_val E ok (y_move rfl) rfl rfl fun a E => ?_
  obtain ⟨r1, e2, hF⟩ := bnd hF
  refine l_call E go_47 rfl (slices_EqualFunc_api_Relation_api_Relation_api_Relation_api_Relation__48_w N _ x_0 hx_0 _ y_1 hy_1 e2 hG ok) rfl rfl ?_
  rintro _ w ⟨rfl, ok⟩
  refine ⟨_, rfl, fun a E => ?_⟩
  refine l_val E ok (y_assign rfl) rfl rfl fun a E => ?_
  refine wpList_nil ?_
  refine t_norm ?_
  refine wp_ret ?_
  have hret : condition_Equal_1_R u m0 S r1 a w := ⟨ok, E.d, ⟨rv_t E rfl, trivial⟩⟩
  obtain rfl := Option.some.inj hF
  exact fin _ _ hret

def slices_EqualFunc_api_Cond_api_Cond_api_Relation_api_Relation__46_R (u : World) (m0 : Mem) (S : Segs) (r : Bool) (a : Act) (w : World) : Prop :=
  Ok u m0 S w ∧ a.defers = [] ∧ RVs Tryz.prog a w [.t 6 (.bool r)]
set_option maxHeartbeats 4000000 in
set_option maxRecDepth 100000 in
theorem slices_EqualFunc_api_Cond_api_Cond_api_Relation_api_Relation__46_w {u : World} {m0 : Mem} {S : Segs} {w : World} (N : Nat) (vs1_0 : Value) (s1_0 : List (List (Relation))) (hs1_0 : (pL 1 (pL 4 pRelation)) m0 [vs1_0] s1_0) (vs2_1 : Value) (s2_1 : List (List (Relation))) (hs2_1 : (pL 1 (pL 4 pRelation)) m0 [vs2_1] s2_1) {r : Bool} (hF : slices_EqualFunc_api_Cond_api_Cond_api_Relation_api_Relation__46 N s1_0 s2_1 = some r) (hG : Glob u) (ok : Ok u m0 S w) :
    Calls Tryz.prog 45 [vs1_0, vs2_1, .func (.func 46) #[] #[]].toArray w fun e w' => (e = .returned (.bool r) ∧ Ok u m0 S w') := by
  have hb0 := ok.base
  have le_m0 := Mem.le.refl m0
  unfold slices_EqualFunc_api_Cond_api_Cond_api_Relation_api_Relation__46 at hF
  have fin : ∀ a w, slices_EqualFunc_api_Cond_api_Cond_api_Relation_api_Relation__46_R u m0 S r a w → bodyPost Tryz.prog Tryz.f45 (fun e w' => (e = .returned (.bool r) ∧ Ok u m0 S w')) .ret a w := by
    intro a w h
    obtain ⟨ok, hd, hrv⟩ := h
    exact c_ret2 [.t 6 (.bool r)] hd rfl hrv ⟨rfl, ok⟩
  refine enter Tryz.func45 rfl rfl rfl fun a E => ?_
  refine wp_seq ?_
  refine c_region ?_
  refine l_val E ok (y_assign rfl) rfl rfl fun a E => ?_
  refine wpList_nil ?_
  refine t_norm ?_
  refine wp_seq ?_
  refine wp_seq ?_
  refine c_region ?_
  refine l_val E ok (y_move rfl) rfl rfl fun a E => ?_
  refine l_val E ok (y_lenL sl_23 hs1_0 rfl) rfl rfl fun a E => ?_
  refine l_val E ok (y_move rfl) rfl rfl fun a E => ?_
  refine l_val E ok (y_lenL sl_23 hs2_1 rfl) rfl rfl fun a E => ?_
  refine l_val E ok (y_neq rfl rfl) rfl rfl fun a E => ?_
  refine wpList_nil ?_
  refine t_norm ?_
  refine c_if E rfl (fun hc1 => ?_) (fun hc1 => ?_)
  · replace hF := cond_t hc1 hF
    refine wp_seq ?_
    refine c_region ?_
    refine l_val E ok (y_assign rfl) rfl rfl fun a E => ?_
    refine wpList_nil ?_
    refine t_norm ?_
    refine wp_ret ?_
    refine t_ret ?_
    have hret : slices_EqualFunc_api_Cond_api_Cond_api_Relation_api_Relation__46_R u m0 S false a w := ⟨ok, E.d, ⟨rv_t E rfl, trivial⟩⟩
    obtain rfl := Option.some.inj hF
    exact fin _ _ hret
  replace hF := cond_f hc1 hF
  refine wp_skip ?_
  refine t_norm ?_
  refine wp_seq ?_
  refine wp_seq ?_
  refine c_region ?_
  refine l_val E ok (y_move rfl) rfl rfl fun a E => ?_
  refine l_val E ok (y_lenL sl_23 hs1_0 rfl) rfl rfl fun a E => ?_
  refine l_val E ok (y_move rfl) rfl rfl fun a E => ?_
  refine wpList_nil ?_
  refine t_norm ?_
  refine wp_block ?_
  obtain ⟨o3, hL, hF⟩ := bnd hF
  refine c_loop _ (fun (s : Int) a w => Ok u m0 (S) w ∧ Env 32 a [(1, vs2_1), (2, (Value.func (.func 46) #[] #[])), (15, vs1_0), (16, (Value.int .i64 (s1_0.length : Int))), (17, (Value.int .i64 s))] ∧ InR .i64 s) (fun (b : (Unit ⊕ Bool)) e a w => (Sum.elim (fun b33 => e = (.exit 0) ∧ Ok u m0 (S) w ∧ Env 32 a []) (fun b34 => e = .ret ∧ slices_EqualFunc_api_Cond_api_Cond_api_Relation_api_Relation__46_R u m0 S b34 a w)) b) ?_ ?_ N _ a w hL ⟨ok, E.keep [1, 2, 15, 16, 17], (show InR .i64 (0) by decide)⟩
  rotate_left
  · intro e a w _ hO
    rcases o3 with o3 | o3
    rotate_left
    · replace hF := elim_r hF
      obtain ⟨rfl, hret⟩ := hO
      refine b_ret ?_
      refine t_ret ?_
      obtain rfl := Option.some.inj hF
      exact fin _ _ hret
    replace hF := elim_l hF
    obtain ⟨rfl, ok, E⟩ := hO
    refine b_hit ?_
    refine t_norm ?_
    refine wp_seq ?_
    refine c_region ?_
    refine l_val E ok (y_assign rfl) rfl rfl fun a E => ?_
    refine wpList_nil ?_
    refine t_norm ?_
    refine wp_ret ?_
    have hret : slices_EqualFunc_api_Cond_api_Cond_api_Relation_api_Relation__46_R u m0 S true a w := ⟨ok, E.d, ⟨rv_t E rfl, trivial⟩⟩
    obtain rfl := Option.some.inj hF
    exact fin _ _ hret
  rintro x_5 a w r ⟨ok, E, r6⟩ hF
  replace hF : slices_EqualFunc_api_Cond_api_Cond_api_Relation_api_Relation__46_b1 N s1_0 s2_1 x_5 = some r := hF
  unfold slices_EqualFunc_api_Cond_api_Cond_api_Relation_api_Relation__46_b1 at hF
  refine wp_seq ?_
  refine c_region ?_
  refine l_val E ok (y_lss rfl rfl) rfl rfl fun a E => ?_
  refine wpList_nil ?_
  refine t_norm ?_
  refine wp_seq ?_
  refine c_if E rfl (fun hc7 => ?_) (fun hc7 => ?_)
  rotate_left
  · replace hF := cond_f hc7 hF
    refine wp_exit ?_
    refine t_exit ?_
    obtain rfl := Option.some.inj hF
    exact step_o (by nofun) (sl ⟨rfl, ⟨ok, E.keep []⟩⟩)
  replace hF := cond_t hc7 hF
  refine wp_skip ?_
  refine t_norm ?_
  refine wp_seq ?_
  refine wp_block ?_
  refine wp_seq ?_
  refine c_region ?_
  refine l_val E ok (y_move rfl) rfl rfl fun a E => ?_
  obtain ⟨x8, e9, hF⟩ := bnd hF
  obtain ⟨b10, o11, es12, hl13, rr14, at15, yy16⟩ := idxAt sl_23 hs1_0 e9 (P := Tryz.prog) (X := .tmp 15) (I := .tmp 17) (kd := .i64) (ev_of E rfl) (ev_of E rfl)
  obtain ⟨c17, rfl, h18⟩ := pL_cell rr14
  refine l_val E ok (yy16 _ _) rfl rfl fun a E => ?_
  refine l_val E ok (y_load one_34 rfl (Holds.ro at15)) rfl rfl fun a E => ?_
  refine l_val E ok (y_assign rfl) rfl rfl fun a E => ?_
  refine l_val E ok (y_assign rfl) rfl rfl fun a E => ?_
  refine wpList_nil ?_
  refine t_norm ?_
  refine wp_seq ?_
  refine c_region ?_
  refine l_val E ok (y_move rfl) rfl rfl fun a E => ?_
  refine l_val E ok (y_move rfl) rfl rfl fun a E => ?_
  obtain ⟨x19, e20, hF⟩ := bnd hF
  obtain ⟨b21, o22, es23, hl24, rr25, at26, yy27⟩ := idxAt sl_23 hs2_1 e20 (P := Tryz.prog) (X := .tmp 22) (I := .tmp 23) (kd := .i64) (ev_of E rfl) (ev_of E rfl)
  obtain ⟨c28, rfl, h29⟩ := pL_cell rr25
  refine l_val E ok (yy27 _ _) rfl rfl fun a E => ?_
  refine l_val E ok (y_load one_34 rfl (Holds.ro at26)) rfl rfl fun a E => ?_
  refine l_val E ok (y_assign rfl) rfl rfl fun a E => ?_
  refine wpList_nil ?_
  refine t_norm ?_
  refine wp_seq ?_
  refine c_region ?_
  refine l_val E ok (y_move rfl) rfl rfl fun a E => ?_
  refine l_val E ok (y_move rfl) rfl rfl fun a E => ?_
  refine l_val E ok (y_move rfl) rfl rfl fun a E => ?_
  obtain ⟨r30, e31, hF⟩ := bnd hF
  refine l_callv E rfl go_46 rfl (condition_Equal_1_w N _ x8 h18 _ x19 h29 e31 hG ok) rfl rfl ?_
  rintro _ w ⟨rfl, ok⟩
  refine ⟨_, rfl, fun a E => ?_⟩
  refine l_val E ok (y_not rfl) rfl rfl fun a E => ?_
  refine wpList_nil ?_
  refine t_norm ?_
  refine c_if E rfl (fun hc32 => ?_) (fun hc32 => ?_)
  rotate_left
  · replace hF := cond_f hc32 hF
    refine wp_skip ?_
    refine b_norm ?_
    refine t_norm ?_
    refine c_region ?_
    refine l_val E ok (y_add rfl rfl (InR.inc r6 (pL_InR hs1_0) hc7)) rfl rfl fun a E => ?_
    refine l_val E ok (y_move rfl) rfl rfl fun a E => ?_
    refine wpList_nil ?_
    obtain rfl := Option.some.inj hF
    exact step_n ⟨ok, E.keep [1, 2, 15, 16, 17], (InR.inc r6 (pL_InR hs1_0) hc7)⟩
  replace hF := cond_t hc32 hF
  refine wp_seq ?_
  refine c_region ?_
  refine l_val E ok (y_assign rfl) rfl rfl fun a E => ?_
  refine wpList_nil ?_
  refine t_norm ?_
  refine wp_ret ?_
  refine b_ret ?_
  refine t_ret ?_
  have hret : slices_EqualFunc_api_Cond_api_Cond_api_Relation_api_Relation__46_R u m0 S false a w := ⟨ok, E.d, ⟨rv_t E rfl, trivial⟩⟩
  obtain rfl := Option.some.inj hF
  exact step_o (by nofun) (sr ⟨rfl, hret⟩)

def condition_Equal_R (u : World) (m0 : Mem) (S : Segs) (r : Bool) (a : Act) (w : World) : Prop :=
  Ok u m0 S w ∧ a.defers = [] ∧ RVs Tryz.prog a w [.t 4 (.bool r)]
set_option maxHeartbeats 4000000 in
set_option maxRecDepth 100000 in
theorem condition_Equal_w {u : World} {m0 : Mem} {S : Segs} {w : World} (N : Nat) (va_0 : Value) (a_0 : List (List (Relation))) (ha_0 : (pL 1 (pL 4 pRelation)) m0 [va_0] a_0) (vb_1 : Value) (b_1 : List (List (Relation))) (hb_1 : (pL 1 (pL 4 pRelation)) m0 [vb_1] b_1) {r : Bool} (hF : condition_Equal N a_0 b_1 = some r) (hG : Glob u) (ok : Ok u m0 S w) :
    Calls Tryz.prog 23 [va_0, vb_1].toArray w fun e w' => (e = .returned (.bool r) ∧ Ok u m0 S w') := by
  have hb0 := ok.base
  have le_m0 := Mem.le.refl m0
  unfold condition_Equal at hF
  have fin : ∀ a w, condition_Equal_R u m0 S r a w → bodyPost Tryz.prog Tryz.f23 (fun e w' => (e = .returned (.bool r) ∧ Ok u m0 S w')) .ret a w := by
    intro a w h
    obtain ⟨ok, hd, hrv⟩ := h
    exact c_ret2 [.t 4 (.bool r)] hd rfl hrv ⟨rfl, ok⟩
  refine enter Tryz.func23 rfl rfl rfl fun a E => ?_
  refine wp_seq ?_
  refine c_region ?_
  refine l_val E ok (y_assign rfl) rfl rfl fun a E => ?_
  refine wpList_nil ?_
  refine t_norm ?_
  refine wp_seq ?_
  refine c_region ?_
  refine l_val E ok (y_move rfl) rfl rfl fun a E => ?_
  refine l_val E ok (y_move rfl) rfl rfl fun a E => ?_
  obtain ⟨r1, e2, hF⟩ := bnd hF
  refine l_call E go_45 rfl (slices_EqualFunc_api_Cond_api_Cond_api_Relation_api_Relation__46_w N _ a_0 ha_0 _ b_1 hb_1 e2 hG ok) rfl rfl ?_
  rintro _ w ⟨rfl, ok⟩
  refine ⟨_, rfl, fun a E => ?_⟩
  refine l_val E ok (y_assign rfl) rfl rfl fun a E => ?_
  refine wpList_nil ?_
  refine t_norm ?_
  refine wp_ret ?_
  have hret : condition_Equal_R u m0 S r1 a w := ⟨ok, E.d, ⟨rv_t E rfl, trivial⟩⟩
  obtain rfl := Option.some.inj hF
  exact fin _ _ hret

def calquelaw08_ConditionPrint_R (u : World) (m0 : Mem) (S : Segs) (r : Bool) (a : Act) (w : World) : Prop :=
  Ok u m0 S w ∧ a.defers = [] ∧ RVs Tryz.prog a w [.t 4 (.bool r)]
set_option maxHeartbeats 4000000 in
set_option maxRecDepth 100000 in
theorem calquelaw08_ConditionPrint_w {u : World} {m0 : Mem} {S : Segs} {w : World} (N : Nat) (vc_0 : Value) (c_0 : List (List (Relation))) (hc_0 : (pL 1 (pL 4 pRelation)) m0 [vc_0] c_0) (vd_1 : Value) (d_1 : List (List (Relation))) (hd_1 : (pL 1 (pL 4 pRelation)) m0 [vd_1] d_1) {r : Bool} (hF : calquelaw08_ConditionPrint N c_0 d_1 = some r) (hG : Glob u) (hT : Tab u) (ok : Ok u m0 S w) :
    Calls Tryz.prog 8 [vc_0, vd_1].toArray w fun e w' => (e = .returned (.bool r) ∧ Ok u m0 S w') := by
  have hb0 := ok.base
  have le_m0 := Mem.le.refl m0
  unfold calquelaw08_ConditionPrint at hF
  have fin : ∀ a w, calquelaw08_ConditionPrint_R u m0 S r a w → bodyPost Tryz.prog Tryz.f8 (fun e w' => (e = .returned (.bool r) ∧ Ok u m0 S w')) .ret a w := by
    intro a w h
    obtain ⟨ok, hd, hrv⟩ := h
    exact c_ret2 [.t 4 (.bool r)] hd rfl hrv ⟨rfl, ok⟩
  refine enter Tryz.func8 rfl rfl rfl fun a E => ?_
  refine wp_seq ?_
  refine c_region ?_
  refine l_val E ok (y_assign rfl) rfl rfl fun a E => ?_
  refine wpList_nil ?_
  refine t_norm ?_
  refine wp_seq ?_
  refine wp_seq ?_
  refine c_region ?_
  obtain ⟨r1, e2, hF⟩ := bnd hF
  refine l_call E go_9 rfl (calquelaw08_awake_w N  e2 hG ok) rfl rfl ?_
  rintro _ w ⟨rfl, ok⟩
  refine ⟨_, rfl, fun a E => ?_⟩
  refine l_val E ok (y_not rfl) rfl rfl fun a E => ?_
  refine l_val E ok (y_move rfl) rfl rfl fun a E => ?_
  refine bsplit (!r1) (fun hc3 => ?_) (fun hc3 => ?_)
  · replace hF := cond_t hc3 hF
    replace E := E.upd 11 hc3 rfl
    refine l_skip E rfl rfl fun a E => ?_
    refine l_skip E rfl rfl fun a E => ?_
    refine l_skip E rfl rfl fun a E => ?_
    refine l_val E ok (y_pickT rfl rfl) rfl rfl fun a E => ?_
    refine l_val E ok (y_move rfl) rfl rfl fun a E => ?_
    refine l_skip E rfl rfl fun a E => ?_
    refine l_skip E rfl rfl fun a E => ?_
    refine l_skip E rfl rfl fun a E => ?_
    refine l_val E ok (y_pickT rfl rfl) rfl rfl fun a E => ?_
    refine wpList_nil ?_
    refine t_norm ?_
    refine c_if E rfl (fun _ => ?_) (fun h => by cases h)
    refine wp_seq ?_
    refine c_region ?_
    obtain ⟨r4, e5, hF⟩ := bnd hF
    refine l_call E go_9 rfl (calquelaw08_awake_w N  e5 hG ok) rfl rfl ?_
    rintro _ w ⟨rfl, ok⟩
    refine ⟨_, rfl, fun a E => ?_⟩
    refine l_val E ok (y_assign rfl) rfl rfl fun a E => ?_
    refine wpList_nil ?_
    refine t_norm ?_
    refine wp_ret ?_
    refine t_ret ?_
    have hret : calquelaw08_ConditionPrint_R u m0 S r4 a w := ⟨ok, E.d, ⟨rv_t E rfl, trivial⟩⟩
    obtain rfl := Option.some.inj hF
    exact fin _ _ hret
  replace hF := cond_f hc3 hF
  replace E := E.upd 11 hc3 rfl
  refine l_val E ok (y_move rfl) rfl rfl fun a E => ?_
  obtain ⟨r6, e7, hF⟩ := bnd hF
  refine l_call E go_10 rfl (calqueref08_Few_w N _ c_0 hc_0 e7 hG ok) rfl rfl ?_
  rintro _ w ⟨rfl, ok⟩
  refine ⟨_, rfl, fun a E => ?_⟩
  refine l_val E ok (y_not rfl) rfl rfl fun a E => ?_
  refine l_val E ok (y_pickF rfl rfl) rfl rfl fun a E => ?_
  refine l_val E ok (y_move rfl) rfl rfl fun a E => ?_
  refine bsplit (!r6) (fun hc8 => ?_) (fun hc8 => ?_)
  · replace hF := cond_t hc8 hF
    replace E := E.upd 16 hc8 rfl
    refine l_skip E rfl rfl fun a E => ?_
    refine l_skip E rfl rfl fun a E => ?_
    refine l_skip E rfl rfl fun a E => ?_
    refine l_val E ok (y_pickT rfl rfl) rfl rfl fun a E => ?_
    refine wpList_nil ?_
    refine t_norm ?_
    refine c_if E rfl (fun _ => ?_) (fun h => by cases h)
    refine wp_seq ?_
    refine c_region ?_
    obtain ⟨r9, e10, hF⟩ := bnd hF
    refine l_call E go_9 rfl (calquelaw08_awake_w N  e10 hG ok) rfl rfl ?_
    rintro _ w ⟨rfl, ok⟩
    refine ⟨_, rfl, fun a E => ?_⟩
    refine l_val E ok (y_assign rfl) rfl rfl fun a E => ?_
    refine wpList_nil ?_
    refine t_norm ?_
    refine wp_ret ?_
    refine t_ret ?_
    have hret : calquelaw08_ConditionPrint_R u m0 S r9 a w := ⟨ok, E.d, ⟨rv_t E rfl, trivial⟩⟩
    obtain rfl := Option.some.inj hF
    exact fin _ _ hret
  replace hF := cond_f hc8 hF
  replace E := E.upd 16 hc8 rfl
  refine l_val E ok (y_move rfl) rfl rfl fun a E => ?_
  obtain ⟨r11, e12, hF⟩ := bnd hF
  refine l_call E go_10 rfl (calqueref08_Few_w N _ d_1 hd_1 e12 hG ok) rfl rfl ?_
  rintro _ w ⟨rfl, ok⟩
  refine ⟨_, rfl, fun a E => ?_⟩
  refine l_val E ok (y_not rfl) rfl rfl fun a E => ?_
  refine l_val E ok (y_pickF rfl rfl) rfl rfl fun a E => ?_
  refine wpList_nil ?_
  refine t_norm ?_
  refine c_if E rfl (fun hc13 => ?_) (fun hc13 => ?_)
  · replace hF := cond_t hc13 hF
    refine wp_seq ?_
    refine c_region ?_
    obtain ⟨r14, e15, hF⟩ := bnd hF
    refine l_call E go_9 rfl (calquelaw08_awake_w N  e15 hG ok) rfl rfl ?_
    rintro _ w ⟨rfl, ok⟩
    refine ⟨_, rfl, fun a E => ?_⟩
    refine l_val E ok (y_assign rfl) rfl rfl fun a E => ?_
    refine wpList_nil ?_
    refine t_norm ?_
    refine wp_ret ?_
    refine t_ret ?_
    have hret : calquelaw08_ConditionPrint_R u m0 S r14 a w := ⟨ok, E.d, ⟨rv_t E rfl, trivial⟩⟩
    obtain rfl := Option.some.inj hF
    exact fin _ _ hret
  replace hF := cond_f hc13 hF
  refine wp_skip ?_
  refine t_norm ?_
  refine wp_seq ?_
  refine c_region ?_
  refine l_val E ok (y_move rfl) rfl rfl fun a E => ?_
  obtain ⟨r16, e17, hF⟩ := bnd hF
  refine l_call E go_18 rfl (condition_Print_w N _ c_0 hc_0 e17 hG hT ok) rfl rfl ?_
  rintro _ w ⟨⟨rfl, ok⟩, l18, r19⟩
  refine ⟨_, rfl, fun a E => ?_⟩
  refine l_val E ok (y_move rfl) rfl rfl fun a E => ?_
  refine l_val E ok (y_extract rfl rfl) rfl rfl fun a E => ?_
  refine l_val E ok (y_extract rfl rfl) rfl rfl fun a E => ?_
  refine l_val E ok (y_assign rfl) rfl rfl fun a E => ?_
  refine l_val E ok (y_assign rfl) rfl rfl fun a E => ?_
  refine wpList_nil ?_
  refine t_norm ?_
  refine wp_seq ?_
  refine c_region ?_
  refine l_val E ok (y_move rfl) rfl rfl fun a E => ?_
  obtain ⟨r20, e21, hF⟩ := bnd hF
  refine l_call E go_21 rfl (calqueref08_Print_w N _ c_0 hc_0 e21 hG ok) rfl rfl ?_
  rintro _ w ⟨⟨rfl, ok⟩, l22, r23⟩
  refine ⟨_, rfl, fun a E => ?_⟩
  refine l_val E ok (y_move rfl) rfl rfl fun a E => ?_
  refine l_val E ok (y_extract rfl rfl) rfl rfl fun a E => ?_
  refine l_val E ok (y_extract rfl rfl) rfl rfl fun a E => ?_
  refine l_val E ok (y_assign rfl) rfl rfl fun a E => ?_
  refine l_val E ok (y_assign rfl) rfl rfl fun a E => ?_
  refine wpList_nil ?_
  refine t_norm ?_
  refine wp_seq ?_
  refine c_region ?_
  refine l_val E ok (y_move rfl) rfl rfl fun a E => ?_
  refine l_val E ok (y_move rfl) rfl rfl fun a E => ?_
  refine l_val E ok (y_seql rfl rfl) rfl rfl fun a E => ?_
  refine l_val E ok (y_move rfl) rfl rfl fun a E => ?_
  refine bsplit (r16.1 == r20.1) (fun hc24 => ?_) (fun hc24 => ?_)
  rotate_left
  · replace hF := cond_f hc24 hF
    replace E := E.upd 35 hc24 rfl
    refine l_skip E rfl rfl fun a E => ?_
    refine l_skip E rfl rfl fun a E => ?_
    refine l_skip E rfl rfl fun a E => ?_
    refine l_val E ok (y_pickF rfl rfl) rfl rfl fun a E => ?_
    refine l_val E ok (y_move rfl) rfl rfl fun a E => ?_
    refine l_skip E rfl rfl fun a E => ?_
    refine l_skip E rfl rfl fun a E => ?_
    refine l_skip E rfl rfl fun a E => ?_
    refine l_skip E rfl rfl fun a E => ?_
    refine l_skip E rfl rfl fun a E => ?_
    refine l_val E ok (y_pickF rfl rfl) rfl rfl fun a E => ?_
    refine l_val E ok (y_move rfl) rfl rfl fun a E => ?_
    refine l_skip E rfl rfl fun a E => ?_
    refine l_skip E rfl rfl fun a E => ?_
    refine l_skip E rfl rfl fun a E => ?_
    refine l_skip E rfl rfl fun a E => ?_
    refine l_skip E rfl rfl fun a E => ?_
    refine l_skip E rfl rfl fun a E => ?_
    refine l_skip E rfl rfl fun a E => ?_
    refine l_val E ok (y_pickF rfl rfl) rfl rfl fun a E => ?_
    refine l_val E ok (y_move rfl) rfl rfl fun a E => ?_
    refine l_skip E rfl rfl fun a E => ?_
    refine l_skip E rfl rfl fun a E => ?_
    refine l_skip E rfl rfl fun a E => ?_
    refine l_val E ok (y_pickF rfl rfl) rfl rfl fun a E => ?_
    refine l_val E ok (y_assign rfl) rfl rfl fun a E => ?_
    refine wpList_nil ?_
    refine t_norm ?_
    refine wp_ret ?_
    have hret : calquelaw08_ConditionPrint_R u m0 S false a w := ⟨ok, E.d, ⟨rv_t E rfl, trivial⟩⟩
    obtain rfl := Option.some.inj hF
    exact fin _ _ hret
  replace hF := cond_t hc24 hF
  replace E := E.upd 35 hc24 rfl
  refine l_val E ok (y_move rfl) rfl rfl fun a E => ?_
  refine l_val E ok (y_move rfl) rfl rfl fun a E => ?_
  refine l_val E ok (y_eql rfl rfl) rfl rfl fun a E => ?_
  refine l_val E ok (y_pickT rfl rfl) rfl rfl fun a E => ?_
  refine l_val E ok (y_move rfl) rfl rfl fun a E => ?_
  refine bsplit (r16.2 == r20.2) (fun hc25 => ?_) (fun hc25 => ?_)
  rotate_left
  · replace hF := cond_f hc25 hF
    replace E := E.upd 40 hc25 rfl
    refine l_skip E rfl rfl fun a E => ?_
    refine l_skip E rfl rfl fun a E => ?_
    refine l_skip E rfl rfl fun a E => ?_
    refine l_skip E rfl rfl fun a E => ?_
    refine l_skip E rfl rfl fun a E => ?_
    refine l_val E ok (y_pickF rfl rfl) rfl rfl fun a E => ?_
    refine l_val E ok (y_move rfl) rfl rfl fun a E => ?_
    refine l_skip E rfl rfl fun a E => ?_
    refine l_skip E rfl rfl fun a E => ?_
    refine l_skip E rfl rfl fun a E => ?_
    refine l_skip E rfl rfl fun a E => ?_
    refine l_skip E rfl rfl fun a E => ?_
    refine l_skip E rfl rfl fun a E => ?_
    refine l_skip E rfl rfl fun a E => ?_
    refine l_val E ok (y_pickF rfl rfl) rfl rfl fun a E => ?_
    refine l_val E ok (y_move rfl) rfl rfl fun a E => ?_
    refine l_skip E rfl rfl fun a E => ?_
    refine l_skip E rfl rfl fun a E => ?_
    refine l_skip E rfl rfl fun a E => ?_
    refine l_val E ok (y_pickF rfl rfl) rfl rfl fun a E => ?_
    refine l_val E ok (y_assign rfl) rfl rfl fun a E => ?_
    refine wpList_nil ?_
    refine t_norm ?_
    refine wp_ret ?_
    have hret : calquelaw08_ConditionPrint_R u m0 S false a w := ⟨ok, E.d, ⟨rv_t E rfl, trivial⟩⟩
    obtain rfl := Option.some.inj hF
    exact fin _ _ hret
  replace hF := cond_t hc25 hF
  replace E := E.upd 40 hc25 rfl
  refine l_val E ok (y_move rfl) rfl rfl fun a E => ?_
  obtain ⟨r26, e27, hF⟩ := bnd hF
  refine l_call E go_22 rfl (condition_Valid_w N _ c_0 hc_0 e27 hG ok) rfl rfl ?_
  rintro _ w ⟨rfl, ok⟩
  refine ⟨_, rfl, fun a E => ?_⟩
  refine l_val E ok (y_move rfl) rfl rfl fun a E => ?_
  obtain ⟨r28, e29, hF⟩ := bnd hF
  refine l_call E go_13 rfl (calqueref08_Valid_w N _ c_0 hc_0 e29 hG ok) rfl rfl ?_
  rintro _ w ⟨rfl, ok⟩
  refine ⟨_, rfl, fun a E => ?_⟩
  refine l_val E ok (y_beql Tryz.underlying4 rfl rfl) rfl rfl fun a E => ?_
  refine l_val E ok (y_pickT rfl rfl) rfl rfl fun a E => ?_
  refine l_val E ok (y_move rfl) rfl rfl fun a E => ?_
  refine bsplit (r26 == r28) (fun hc30 => ?_) (fun hc30 => ?_)
  rotate_left
  · replace hF := cond_f hc30 hF
    replace E := E.upd 47 hc30 rfl
    refine l_skip E rfl rfl fun a E => ?_
    refine l_skip E rfl rfl fun a E => ?_
    refine l_skip E rfl rfl fun a E => ?_
    refine l_skip E rfl rfl fun a E => ?_
    refine l_skip E rfl rfl fun a E => ?_
    refine l_skip E rfl rfl fun a E => ?_
    refine l_skip E rfl rfl fun a E => ?_
    refine l_val E ok (y_pickF rfl rfl) rfl rfl fun a E => ?_
    refine l_val E ok (y_move rfl) rfl rfl fun a E => ?_
    refine l_skip E rfl rfl fun a E => ?_
    refine l_skip E rfl rfl fun a E => ?_
    refine l_skip E rfl rfl fun a E => ?_
    refine l_val E ok (y_pickF rfl rfl) rfl rfl fun a E => ?_
    refine l_val E ok (y_assign rfl) rfl rfl fun a E => ?_
    refine wpList_nil ?_
    refine t_norm ?_
    refine wp_ret ?_
    have hret : calquelaw08_ConditionPrint_R u m0 S false a w := ⟨ok, E.d, ⟨rv_t E rfl, trivial⟩⟩
    obtain rfl := Option.some.inj hF
    exact fin _ _ hret
  replace hF := cond_t hc30 hF
  replace E := E.upd 47 hc30 rfl
  refine l_val E ok (y_move rfl) rfl rfl fun a E => ?_
  refine l_val E ok (y_move rfl) rfl rfl fun a E => ?_
  obtain ⟨r31, e32, hF⟩ := bnd hF
  refine l_call E go_23 rfl (condition_Equal_w N _ c_0 hc_0 _ d_1 hd_1 e32 hG ok) rfl rfl ?_
  rintro _ w ⟨rfl, ok⟩
  refine ⟨_, rfl, fun a E => ?_⟩
  refine l_val E ok (y_move rfl) rfl rfl fun a E => ?_
  refine l_val E ok (y_move rfl) rfl rfl fun a E => ?_
  obtain ⟨r33, e34, hF⟩ := bnd hF
  refine l_call E go_20 rfl (calqueref08_Equal_w N _ c_0 hc_0 _ d_1 hd_1 e34 hG ok) rfl rfl ?_
  rintro _ w ⟨rfl, ok⟩
  refine ⟨_, rfl, fun a E => ?_⟩
  refine l_val E ok (y_beql Tryz.underlying4 rfl rfl) rfl rfl fun a E => ?_
  refine l_val E ok (y_pickT rfl rfl) rfl rfl fun a E => ?_
  refine l_val E ok (y_move rfl) rfl rfl fun a E => ?_
  refine bsplit (r31 == r33) (fun hc35 => ?_) (fun hc35 => ?_)
  rotate_left
  · replace hF := cond_f hc35 hF
    replace E := E.upd 56 hc35 rfl
    refine l_skip E rfl rfl fun a E => ?_
    refine l_skip E rfl rfl fun a E => ?_
    refine l_skip E rfl rfl fun a E => ?_
    refine l_val E ok (y_pickF rfl rfl) rfl rfl fun a E => ?_
    refine l_val E ok (y_assign rfl) rfl rfl fun a E => ?_
    refine wpList_nil ?_
    refine t_norm ?_
    refine wp_ret ?_
    have hret : calquelaw08_ConditionPrint_R u m0 S false a w := ⟨ok, E.d, ⟨rv_t E rfl, trivial⟩⟩
    obtain rfl := Option.some.inj hF
    exact fin _ _ hret
  replace hF := cond_t hc35 hF
  replace E := E.upd 56 hc35 rfl
  refine l_val E ok (y_move rfl) rfl rfl fun a E => ?_
  refine l_val E ok (y_move rfl) rfl rfl fun a E => ?_
  obtain ⟨r36, e37, hF⟩ := bnd hF
  refine l_call E go_23 rfl (condition_Equal_w N _ c_0 hc_0 _ c_0 hc_0 e37 hG ok) rfl rfl ?_
  rintro _ w ⟨rfl, ok⟩
  refine ⟨_, rfl, fun a E => ?_⟩
  refine l_val E ok (y_pickT rfl rfl) rfl rfl fun a E => ?_
  refine l_val E ok (y_assign rfl) rfl rfl fun a E => ?_
  refine wpList_nil ?_
  refine t_norm ?_
  refine wp_ret ?_
  have hret : calquelaw08_ConditionPrint_R u m0 S r36 a w := ⟨ok, E.d, ⟨rv_t E rfl, trivial⟩⟩
  obtain rfl := Option.some.inj hF
  exact fin _ _ hret

end Go.Proofs.YtbaiahglondepaaGreatDoor
