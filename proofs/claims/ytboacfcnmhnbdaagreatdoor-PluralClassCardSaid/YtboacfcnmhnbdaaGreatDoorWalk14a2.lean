/- The walks of this part: the model's run of each function yields what the plain function says. Printed by gen8.py. -/
import Derived.Test.YtboacfcnmhnbdaaGreatDoorExt14a2
import Derived.Test.YtboacfcnmhnbdaaGreatDoorWalk14a1
import Derived.Test.YtboacfcnmhnbdaaGreatDoorChecked
import Derived.Test.YtboacfcnmhnbdaaGreatDoorShelf
set_option linter.unusedVariables false
namespace Go.Proofs.YtboacfcnmhnbdaaGreatDoor
open Go.X

def plural_Class_R (u : World) (m0 : Mem) (S : Segs) (r : (List UInt8) × Int) (a : Act) (w : World) : Prop :=
  Ok u m0 S w ∧ a.defers = [] ∧ RVs Tryz.prog a w [.t 4 (.string (bs r.1)), .t 5 (.int .i64 r.2)] ∧ r.1.length ≤ LIMS ∧ InR .i64 r.2
set_option maxHeartbeats 4000000 in
set_option maxRecDepth 100000 in
theorem plural_Class_w {u : World} {m0 : Mem} {S : Segs} {w : World} (N : Nat) (vl_0 : Value) (l_0 : List (Rule)) (hl_0 : (pL 2 pRule) m0 [vl_0] l_0) (number_1 : List UInt8) (lnumber_1 : number_1.length ≤ LIMS) {r : (List UInt8) × Int} (hF : plural_Class N l_0 number_1 = some r) (hG : Glob u) (ok : Ok u m0 S w) :
    Calls Tryz.prog 11 [vl_0, Value.string (bs number_1)].toArray w fun e w' => (e = .returned (.tuple [(.string (bs r.1)), (.int .i64 r.2)].toArray) ∧ Ok u m0 S w') ∧ r.1.length ≤ LIMS ∧ InR .i64 r.2 := by
  have hb0 := ok.base
  have le_m0 := Mem.le.refl m0
  unfold plural_Class at hF
  have fin : ∀ a w, plural_Class_R u m0 S r a w → bodyPost Tryz.prog Tryz.f11 (fun e w' => (e = .returned (.tuple [(.string (bs r.1)), (.int .i64 r.2)].toArray) ∧ Ok u m0 S w') ∧ r.1.length ≤ LIMS ∧ InR .i64 r.2) .ret a w := by
    intro a w h
    obtain ⟨ok, hd, hrv, h0, h1⟩ := h
    exact c_ret2 [.t 4 (.string (bs r.1)), .t 5 (.int .i64 r.2)] hd rfl hrv ⟨⟨rfl, ok⟩, h0, h1⟩
  refine enter Tryz.func11 rfl rfl rfl fun a E => ?_
  refine wp_seq ?_
  refine c_region ?_
  refine l_val E ok (y_assign rfl) rfl rfl fun a E => ?_
  refine l_val E ok (y_assign rfl) rfl rfl fun a E => ?_
  refine wpList_nil ?_
  refine t_norm ?_
  refine wp_seq ?_
  refine wp_seq ?_
  refine c_region ?_
  refine l_val E ok (y_move rfl) rfl rfl fun a E => ?_
  obtain ⟨r1, e2, hF⟩ := bnd hF
  refine l_call E go_13 rfl (plural_Valid_w N _ l_0 hl_0 e2 hG ok) rfl rfl ?_
  rintro _ w ⟨rfl, ok⟩
  refine ⟨_, rfl, fun a E => ?_⟩
  refine l_val E ok (y_not rfl) rfl rfl fun a E => ?_
  refine wpList_nil ?_
  refine t_norm ?_
  refine c_if E rfl (fun hc3 => ?_) (fun hc3 => ?_)
  · replace hF := cond_t hc3 hF
    refine wp_seq ?_
    refine c_region ?_
    refine l_val E ok (y_assign rfl) rfl rfl fun a E => ?_
    refine l_val E ok (y_assign rfl) rfl rfl fun a E => ?_
    refine wpList_nil ?_
    refine t_norm ?_
    refine wp_ret ?_
    refine t_ret ?_
    have hret : plural_Class_R u m0 S ([], 1) a w := ⟨ok, E.d, ⟨rv_t E rfl, rv_t E rfl, trivial⟩, (show ([] : List UInt8).length ≤ LIMS by decide), (show InR .i64 (1) by decide)⟩
    obtain rfl := Option.some.inj hF
    exact fin _ _ hret
  replace hF := cond_f hc3 hF
  refine wp_skip ?_
  refine t_norm ?_
  refine wp_seq ?_
  refine c_region ?_
  refine l_val E ok (y_build (ps := []) (qs := []) (cs := [(Value.int .i64 0), (Value.int .i64 0)]) zero_49 places_49 rfl trivial rfl) rfl rfl fun a E => ?_
  refine l_slit (R := pSpan) (xo := [.tmp 16]) (xs := ([(Span.mk 0 0)] : List (Span))) E ok sl_50 zero_49 rfl ⟨⟨_, rfl, rfl, ⟨rfl, (show InR .i64 0 by decide), (show InR .i64 0 by decide)⟩⟩, trivial⟩ rfl rfl rfl rfl fun c4 M5 a w E ok h6 => ?_
  refine l_val E ok (y_build (ps := [(0, .const (Value.int .i64 2)), (2, .const (Value.bool true)), (3, .tmp 17)]) (qs := [(0, [(Value.int .i64 2)]), (2, [(Value.bool true)]), (3, [c4])]) (cs := [(Value.int .i64 2), (Value.int .i64 0), (Value.bool true), c4]) zero_52 places_52 rfl ⟨rfl, rfl, rfl, ⟨rfl, rfl, rfl, ⟨rfl, (ORow.cells h6), rfl, trivial⟩⟩⟩ rfl) rfl rfl fun a E => ?_
  obtain ⟨m7, hle, ok, hfz⟩ := (ok.frs 0 rfl).freeze
  have h8 := ORow.froz mSpan h6 hle hfz (by decide)
  have le_m0 := le_m0.trans hle
  have hl_0 := (mL mRule).up hle hl_0
  refine l_slit (R := pRelation) (xo := [.tmp 18]) (xs := ([(Relation.mk 2 0 true ([(Span.mk 0 0)] : List (Span)))] : List (Relation))) E ok sl_53 zero_52 rfl ⟨⟨_, rfl, rfl, ⟨_, rfl, (show InR .i64 (2) by decide), (show InR .i64 0 by decide), h8⟩⟩, trivial⟩ rfl rfl rfl rfl fun c9 M10 a w E ok h11 => ?_
  obtain ⟨m12, hle, ok, hfz⟩ := (ok.frs 0 rfl).freeze
  have h13 := ORow.froz mRelation h11 hle hfz (by decide)
  have le_m0 := le_m0.trans hle
  have hl_0 := (mL mRule).up hle hl_0
  have h8 := (mL mSpan).up hle h8
  refine l_slit (R := (pL 4 pRelation)) (xo := [.tmp 19]) (xs := ([([(Relation.mk 2 0 true ([(Span.mk 0 0)] : List (Span)))] : List (Relation))] : List (List (Relation)))) E ok sl_42 zero_53 rfl ⟨⟨_, (pL_cells h13), rfl, h13⟩, trivial⟩ rfl rfl rfl rfl fun c14 M15 a w E ok h16 => ?_
  refine l_val E ok (y_assign rfl) rfl rfl fun a E => ?_
  refine wpList_nil ?_
  refine t_norm ?_
  refine wp_seq ?_
  refine wp_seq ?_
  refine c_region ?_
  refine l_val E ok (y_move rfl) rfl rfl fun a E => ?_
  refine l_val E ok (y_move rfl) rfl rfl fun a E => ?_
  obtain ⟨r22, e23, hF⟩ := bnd hF
  obtain ⟨m17, hle19, ok18, hfz20⟩ := (ok.frs 0 rfl).freeze
  have h21 := ORow.froz (mL mRelation) h16 hle19 hfz20 (by decide)
  refine l_call E go_27 rfl (condition_Holds_w N _ ([([(Relation.mk 2 0 true ([(Span.mk 0 0)] : List (Span)))] : List (Relation))] : List (List (Relation))) h21 number_1 lnumber_1 e23 hG ok18) rfl rfl ?_
  rintro _ w ⟨⟨rfl, okz⟩, r24⟩
  replace ok := (Ok.thawAt 0 rfl ok hle19 hfz20 okz)
  refine ⟨_, rfl, fun a E => ?_⟩
  refine l_val E ok (y_move rfl) rfl rfl fun a E => ?_
  refine l_val E ok (y_extract rfl rfl) rfl rfl fun a E => ?_
  refine l_val E ok (y_extract rfl rfl) rfl rfl fun a E => ?_
  refine l_val E ok (y_assign rfl) rfl rfl fun a E => ?_
  refine l_val E ok (y_assign rfl) rfl rfl fun a E => ?_
  refine wpList_nil ?_
  refine t_norm ?_
  refine wp_seq ?_
  refine c_region ?_
  refine l_val E ok (y_move rfl) rfl rfl fun a E => ?_
  refine l_val E ok (y_neq rfl rfl) rfl rfl fun a E => ?_
  refine wpList_nil ?_
  refine t_norm ?_
  refine c_if E rfl (fun hc25 => ?_) (fun hc25 => ?_)
  · replace hF := cond_t hc25 hF
    refine wp_seq ?_
    refine c_region ?_
    refine l_val E ok (y_assign rfl) rfl rfl fun a E => ?_
    refine l_val E ok (y_assign rfl) rfl rfl fun a E => ?_
    refine wpList_nil ?_
    refine t_norm ?_
    refine wp_ret ?_
    refine t_ret ?_
    have hret : plural_Class_R u m0 S ([], 1) a w := ⟨(ok.drop).down hb0 le_m0, E.d, ⟨rv_t E rfl, rv_t E rfl, trivial⟩, (show ([] : List UInt8).length ≤ LIMS by decide), (show InR .i64 (1) by decide)⟩
    obtain rfl := Option.some.inj hF
    exact fin _ _ hret
  replace hF := cond_f hc25 hF
  refine wp_skip ?_
  refine t_norm ?_
  refine wp_seq ?_
  refine wp_seq ?_
  refine c_region ?_
  refine l_val E ok (y_move rfl) rfl rfl fun a E => ?_
  refine l_val E ok (y_lenL sl_22 hl_0 rfl) rfl rfl fun a E => ?_
  refine l_val E ok (y_move rfl) rfl rfl fun a E => ?_
  refine wpList_nil ?_
  refine t_norm ?_
  refine wp_block ?_
  obtain ⟨o27, hL, hF⟩ := bnd hF
  refine c_loop _ (fun (s : Int) a w => Ok u m12 (M15 :: S) w ∧ Env 51 a [(1, (Value.string (bs number_1))), (29, vl_0), (30, (Value.int .i64 (l_0.length : Int))), (31, (Value.int .i64 s))] ∧ InR .i64 s) (fun (b : (Unit ⊕ ((List UInt8) × Int))) e a w => (Sum.elim (fun b50 => e = (.exit 0) ∧ Ok u m12 (M15 :: S) w ∧ Env 51 a []) (fun b51 => e = .ret ∧ plural_Class_R u m0 S b51 a w)) b) ?_ ?_ N _ a w hL ⟨ok, E.keep [1, 29, 30, 31], (show InR .i64 (0) by decide)⟩
  rotate_left
  · intro e a w _ hO
    rcases o27 with o27 | o27
    rotate_left
    · replace hF := elim_r hF
      obtain ⟨rfl, hret⟩ := hO
      refine b_ret ?_
      refine t_ret ?_
      obtain rfl := Option.some.inj hF
      exact fin _ _ hret
    replace hF := elim_l hF
    obtain ⟨rfl, ok, E⟩ := hO
    refine b_hit ?_
    refine t_norm ?_
    refine wp_seq ?_
    refine c_region ?_
    refine l_val E ok (y_assign rfl) rfl rfl fun a E => ?_
    refine l_val E ok (y_assign rfl) rfl rfl fun a E => ?_
    refine wpList_nil ?_
    refine t_norm ?_
    refine wp_ret ?_
    have hret : plural_Class_R u m0 S ([111, 116, 104, 101, 114], 0) a w := ⟨(ok.drop).down hb0 le_m0, E.d, ⟨rv_t E rfl, rv_t E rfl, trivial⟩, (show ([111, 116, 104, 101, 114] : List UInt8).length ≤ LIMS by decide), (show InR .i64 (0) by decide)⟩
    obtain rfl := Option.some.inj hF
    exact fin _ _ hret
  rintro x_29 a w r ⟨ok, E, r30⟩ hF
  replace hF : plural_Class_b1 N l_0 number_1 x_29 = some r := hF
  unfold plural_Class_b1 at hF
  refine wp_seq ?_
  refine c_region ?_
  refine l_val E ok (y_lss rfl rfl) rfl rfl fun a E => ?_
  refine wpList_nil ?_
  refine t_norm ?_
  refine wp_seq ?_
  refine c_if E rfl (fun hc31 => ?_) (fun hc31 => ?_)
  rotate_left
  · replace hF := cond_f hc31 hF
    refine wp_exit ?_
    refine t_exit ?_
    obtain rfl := Option.some.inj hF
    exact step_o (by nofun) (sl ⟨rfl, ⟨ok, E.keep []⟩⟩)
  replace hF := cond_t hc31 hF
  refine wp_skip ?_
  refine t_norm ?_
  refine wp_seq ?_
  refine wp_block ?_
  refine wp_seq ?_
  refine c_region ?_
  obtain ⟨x32, e33, hF⟩ := bnd hF
  obtain ⟨b34, o35, es36, hl37, rr38, at39, yy40⟩ := idxAt sl_22 hl_0 e33 (P := Tryz.prog) (X := .tmp 29) (I := .tmp 31) (kd := .i64) (ev_of E rfl) (ev_of E rfl)
  obtain ⟨c42, rfl, l41, h43⟩ := rr38
  refine l_val E ok (yy40 _ _) rfl rfl fun a E => ?_
  refine l_val E ok (y_loadAgg (cs := [(Value.string (bs x32.Class)), c42]) agg_44 rfl rfl (Holds.ro at39)) rfl rfl fun a E => ?_
  refine l_alloc E ok zero_44 rfl rfl fun b44 a w E ok => ?_
  refine l_storeB E ok 0 rfl rfl rfl inf_44 rfl rfl ⟨rfl, (pL_one h43), trivial⟩ rfl rfl fun w ok => ?_
  refine wpList_nil ?_
  refine t_norm ?_
  refine wp_seq ?_
  refine c_region ?_
  refine l_val E ok (y_fieldAddr fo_44_1 rfl) rfl rfl fun a E => ?_
  refine l_val E ok (y_load one_42 rfl (Holds.own 0 rfl rfl)) rfl rfl fun a E => ?_
  refine l_val E ok (y_move rfl) rfl rfl fun a E => ?_
  obtain ⟨r45, e46, hF⟩ := bnd hF
  refine l_call E go_27 rfl (condition_Holds_w N _ x32.Cond h43 number_1 lnumber_1 e46 hG ok) rfl rfl ?_
  rintro _ w ⟨⟨rfl, ok⟩, r47⟩
  refine ⟨_, rfl, fun a E => ?_⟩
  refine l_val E ok (y_move rfl) rfl rfl fun a E => ?_
  refine l_val E ok (y_extract rfl rfl) rfl rfl fun a E => ?_
  refine l_val E ok (y_extract rfl rfl) rfl rfl fun a E => ?_
  refine l_val E ok (y_assign rfl) rfl rfl fun a E => ?_
  refine l_val E ok (y_assign rfl) rfl rfl fun a E => ?_
  refine wpList_nil ?_
  refine t_norm ?_
  refine wp_block ?_
  refine wp_seq ?_
  refine c_region ?_
  refine l_val E ok (y_move rfl) rfl rfl fun a E => ?_
  refine l_val E ok (y_neq rfl rfl) rfl rfl fun a E => ?_
  refine l_val E ok (y_assign rfl) rfl rfl fun a E => ?_
  refine wpList_nil ?_
  refine t_norm ?_
  refine c_if E rfl (fun hc48 => ?_) (fun hc48 => ?_)
  · replace hF := cond_t hc48 hF
    refine wp_seq ?_
    refine c_region ?_
    refine l_val E ok (y_move rfl) rfl rfl fun a E => ?_
    refine l_val E ok (y_assign rfl) rfl rfl fun a E => ?_
    refine l_val E ok (y_assign rfl) rfl rfl fun a E => ?_
    refine wpList_nil ?_
    refine t_norm ?_
    refine wp_ret ?_
    refine b_ret ?_
    refine b_ret ?_
    refine t_ret ?_
    have hret : plural_Class_R u m0 S ([], r45.2) a w := ⟨(ok.drop.drop).down hb0 le_m0, E.d, ⟨rv_t E rfl, rv_t E rfl, trivial⟩, (show ([] : List UInt8).length ≤ LIMS by decide), r47⟩
    obtain rfl := Option.some.inj hF
    exact step_o (by nofun) (sr ⟨rfl, hret⟩)
  replace hF := cond_f hc48 hF
  refine wp_seq ?_
  refine c_region ?_
  refine l_val E ok (y_move rfl) rfl rfl fun a E => ?_
  refine l_val E ok (y_assign rfl) rfl rfl fun a E => ?_
  refine wpList_nil ?_
  refine t_norm ?_
  refine c_if E rfl (fun hc49 => ?_) (fun hc49 => ?_)
  rotate_left
  · replace hF := cond_f hc49 hF
    refine wp_skip ?_
    refine b_norm ?_
    refine b_norm ?_
    refine t_norm ?_
    refine c_region ?_
    refine l_val E ok (y_add rfl rfl (InR.inc r30 (pL_InR hl_0) hc31)) rfl rfl fun a E => ?_
    refine l_val E ok (y_move rfl) rfl rfl fun a E => ?_
    refine wpList_nil ?_
    obtain rfl := Option.some.inj hF
    exact step_n ⟨(ok.pk 2 [1] rfl (by decide)), E.keep [1, 29, 30, 31], (InR.inc r30 (pL_InR hl_0) hc31)⟩
  replace hF := cond_t hc49 hF
  refine wp_seq ?_
  refine c_region ?_
  refine l_val E ok (y_fieldAddr fo_44_0 rfl) rfl rfl fun a E => ?_
  refine l_val E ok (y_load one_9 rfl (Holds.own 0 rfl rfl)) rfl rfl fun a E => ?_
  refine l_val E ok (y_assign rfl) rfl rfl fun a E => ?_
  refine l_val E ok (y_assign rfl) rfl rfl fun a E => ?_
  refine wpList_nil ?_
  refine t_norm ?_
  refine wp_ret ?_
  refine b_ret ?_
  refine b_ret ?_
  refine t_ret ?_
  have hret : plural_Class_R u m0 S (x32.Class, 0) a w := ⟨(ok.drop.drop).down hb0 le_m0, E.d, ⟨rv_t E rfl, rv_t E rfl, trivial⟩, l41, (show InR .i64 (0) by decide)⟩
  obtain rfl := Option.some.inj hF
  exact step_o (by nofun) (sr ⟨rfl, hret⟩)

theorem strings_IndexByte_w {u : World} {m0 : Mem} {S : Segs} {w : World} (N : Nat) (p0_0 : List UInt8) (lp0_0 : p0_0.length ≤ LIMS) (p1_1 : Int) (rp1_1 : InR .u8 p1_1) {r : Int} (hF : strings_IndexByte N p0_0 p1_1 = some r) (hG : Glob u) (ok : Ok u m0 S w) :
    Calls Tryz.prog 100 [Value.string (bs p0_0), Value.int .u8 p1_1].toArray w fun e w' => (e = .returned (.int .i64 r) ∧ Ok u m0 S w') ∧ InR .i64 r := lib_IndexByte Tryz.lays137 p0_0 p1_1 hF lp0_0 ok

def condition_parser_skip_R (u : World) (m0 : Mem) (S : Segs) (pb0 : Nat) (x0 : Parser) (r : Parser) (a : Act) (w : World) : Prop :=
  Ok u m0 ([(pb0, Obj.cells [(Value.string (bs r.s)), (Value.int .i64 r.at_), (Value.int .i64 r.relations), (Value.int .i64 r.e)].toArray 88 (0, 0))] :: S) w ∧ a.defers = [] ∧ RVs Tryz.prog a w [] ∧ r.s.length ≤ LIMS ∧ InR .i64 r.at_ ∧ InR .i64 r.relations ∧ InR .i64 r.e
set_option maxHeartbeats 4000000 in
set_option maxRecDepth 100000 in
theorem condition_parser_skip_w {u : World} {m0 : Mem} {S : Segs} {w : World} (N : Nat) {pb0 : Nat} (x0 : Parser) (l1 : x0.s.length ≤ LIMS) (r2 : InR .i64 x0.at_) (r3 : InR .i64 x0.relations) (r4 : InR .i64 x0.e) {r : Parser} (hF : condition_parser_skip N x0 = some r) (hG : Glob u) (ok : Ok u m0 ([(pb0, Obj.cells [(Value.string (bs x0.s)), (Value.int .i64 x0.at_), (Value.int .i64 x0.relations), (Value.int .i64 x0.e)].toArray 88 (0, 0))] :: S) w) :
    Calls Tryz.prog 70 [Value.pointer (some ⟨pb0, 0, none⟩)].toArray w fun e w' => (e = .returned (.tuple [].toArray) ∧ Ok u m0 ([(pb0, Obj.cells [(Value.string (bs r.s)), (Value.int .i64 r.at_), (Value.int .i64 r.relations), (Value.int .i64 r.e)].toArray 88 (0, 0))] :: S) w') ∧ r.s.length ≤ LIMS ∧ InR .i64 r.at_ ∧ InR .i64 r.relations ∧ InR .i64 r.e := by
  have hb0 := ok.base
  have le_m0 := Mem.le.refl m0
  unfold condition_parser_skip at hF
  have fin : ∀ a w, condition_parser_skip_R u m0 S pb0 x0 r a w → bodyPost Tryz.prog Tryz.f70 (fun e w' => (e = .returned (.tuple [].toArray) ∧ Ok u m0 ([(pb0, Obj.cells [(Value.string (bs r.s)), (Value.int .i64 r.at_), (Value.int .i64 r.relations), (Value.int .i64 r.e)].toArray 88 (0, 0))] :: S) w') ∧ r.s.length ≤ LIMS ∧ InR .i64 r.at_ ∧ InR .i64 r.relations ∧ InR .i64 r.e) .ret a w := by
    intro a w h
    obtain ⟨ok, hd, hrv, h0, h1, h2, h3⟩ := h
    exact c_ret2 [] hd rfl hrv ⟨⟨rfl, ok⟩, h0, h1, h2, h3⟩
  refine enter Tryz.func70 rfl rfl rfl fun a E => ?_
  refine wp_block ?_
  obtain ⟨o13, hL, hF⟩ := bnd hF
  refine c_loop _ (fun (s : Parser) a w => Ok u m0 ([(pb0, Obj.cells [(Value.string (bs s.s)), (Value.int .i64 s.at_), (Value.int .i64 s.relations), (Value.int .i64 s.e)].toArray 88 (0, 0))] :: S) w ∧ Env 32 a [(0, (Value.pointer (some ⟨pb0, 0, none⟩)))] ∧ s.s.length ≤ LIMS ∧ InR .i64 s.at_ ∧ InR .i64 s.relations ∧ InR .i64 s.e) (fun (b : Parser) e a w => e = (.exit 0) ∧ Ok u m0 ([(pb0, Obj.cells [(Value.string (bs b.s)), (Value.int .i64 b.at_), (Value.int .i64 b.relations), (Value.int .i64 b.e)].toArray 88 (0, 0))] :: S) w ∧ Env 32 a [] ∧ b.s.length ≤ LIMS ∧ InR .i64 b.at_ ∧ InR .i64 b.relations ∧ InR .i64 b.e) ?_ ?_ N _ a w hL ⟨ok, E.keep [0], l1, r2, r3, r4⟩
  rotate_left
  · intro e a w _ hO
    obtain ⟨rfl, ok, E, l30, r31, r32, r33⟩ := hO
    refine b_hit ?_
    have hret : condition_parser_skip_R u m0 S pb0 x0 o13 a w := ⟨ok, E.d, trivial, l30, r31, r32, r33⟩
    obtain rfl := Option.some.inj hF
    exact fin _ _ hret
  rintro x_18 a w r ⟨ok, E, l19, r20, r21, r22⟩ hF
  replace hF : condition_parser_skip_b1 N x_18 = some r := hF
  unfold condition_parser_skip_b1 at hF
  refine wp_seq ?_
  refine wp_seq ?_
  refine c_draw (by kernel_rfl) (by kernel_rfl) ok ?_
  refine q_val E (y_move rfl) rfl rfl fun a E => ?_
  refine q_val E (y_nilCheck rfl) rfl rfl fun a E => ?_
  refine q_val E (y_fieldAddr fo_88_1 rfl) rfl rfl fun a E => ?_
  refine q_val E (y_load one_3 rfl (Holds.own 0 rfl rfl)) rfl rfl fun a E => ?_
  refine q_val E (y_move rfl) rfl rfl fun a E => ?_
  refine q_val E (y_nilCheck rfl) rfl rfl fun a E => ?_
  refine q_val E (y_fieldAddr fo_88_0 rfl) rfl rfl fun a E => ?_
  refine q_val E (y_load one_9 rfl (Holds.own 0 rfl rfl)) rfl rfl fun a E => ?_
  refine q_val E (y_slen Tryz.underlying9 rfl) rfl rfl fun a E => ?_
  refine q_val E (y_lss rfl rfl) rfl rfl fun a E => ?_
  refine q_val E (y_move rfl) rfl rfl fun a E => ?_
  refine bsplit (decide (x_18.at_ < (x_18.s.length : Int))) (fun hc23 => ?_) (fun hc23 => ?_)
  rotate_left
  · replace hF := cond_f hc23 hF
    replace E := E.upd 12 hc23 rfl
    refine q_skip E rfl rfl fun a E => ?_
    refine q_skip E rfl rfl fun a E => ?_
    refine q_skip E rfl rfl fun a E => ?_
    refine q_skip E rfl rfl fun a E => ?_
    refine q_skip E rfl rfl fun a E => ?_
    refine q_skip E rfl rfl fun a E => ?_
    refine q_skip E rfl rfl fun a E => ?_
    refine q_skip E rfl rfl fun a E => ?_
    refine q_skip E rfl rfl fun a E => ?_
    refine q_skip E rfl rfl fun a E => ?_
    refine q_skip E rfl rfl fun a E => ?_
    refine q_val E (y_pickF rfl rfl) rfl rfl fun a E => ?_
    refine wpQuiet_nil ?_
    intro w ok
    refine t_norm ?_
    refine c_if E rfl (fun h => by cases h) (fun _ => ?_)
    refine wp_exit ?_
    refine t_exit ?_
    obtain rfl := Option.some.inj hF
    exact step_o (by nofun) (⟨rfl, ⟨ok, E.keep [], l19, r20, r21, r22⟩⟩)
  replace hF := cond_t hc23 hF
  replace E := E.upd 12 hc23 rfl
  refine q_val E (y_move rfl) rfl rfl fun a E => ?_
  refine q_val E (y_nilCheck rfl) rfl rfl fun a E => ?_
  refine q_val E (y_fieldAddr fo_88_0 rfl) rfl rfl fun a E => ?_
  refine q_val E (y_load one_9 rfl (Holds.own 0 rfl rfl)) rfl rfl fun a E => ?_
  refine q_val E (y_move rfl) rfl rfl fun a E => ?_
  refine q_val E (y_nilCheck rfl) rfl rfl fun a E => ?_
  refine q_val E (y_fieldAddr fo_88_1 rfl) rfl rfl fun a E => ?_
  refine q_val E (y_load one_3 rfl (Holds.own 0 rfl rfl)) rfl rfl fun a E => ?_
  obtain ⟨c24, e25, hF⟩ := bnd hF
  refine q_val E (y_index Tryz.underlying9 rfl rfl e25) rfl rfl fun a E => ?_
  obtain ⟨r26, e27, hF⟩ := bnd hF
  obtain ⟨_, _, ⟨_, _⟩, r28⟩ := Go.X.Calls.get (strings_IndexByte_w N ([32, 9, 10]) (show ([32, 9, 10] : List UInt8).length ≤ LIMS by decide) (c24.toNat : Int) (InR.byte c24) e27 hG ok)
  refine q_call E go_100 rfl (fun w ok => (strings_IndexByte_w N ([32, 9, 10]) (show ([32, 9, 10] : List UInt8).length ≤ LIMS by decide) (c24.toNat : Int) (InR.byte c24) e27 hG ok).mono (fun _ _ h => h.1)) rfl rfl fun a E => ?_
  refine q_val E (y_geq rfl rfl) rfl rfl fun a E => ?_
  refine q_val E (y_pickT rfl rfl) rfl rfl fun a E => ?_
  refine wpQuiet_nil ?_
  intro w ok
  refine t_norm ?_
  refine c_if E rfl (fun hc29 => ?_) (fun hc29 => ?_)
  rotate_left
  · replace hF := cond_f hc29 hF
    refine wp_exit ?_
    refine t_exit ?_
    obtain rfl := Option.some.inj hF
    exact step_o (by nofun) (⟨rfl, ⟨ok, E.keep [], l19, r20, r21, r22⟩⟩)
  replace hF := cond_t hc29 hF
  refine wp_skip ?_
  refine t_norm ?_
  refine wp_block ?_
  refine c_region ?_
  refine l_val E ok (y_move rfl) rfl rfl fun a E => ?_
  refine l_val E ok (y_nilCheck rfl) rfl rfl fun a E => ?_
  refine l_val E ok (y_fieldAddr fo_88_1 rfl) rfl rfl fun a E => ?_
  refine l_val E ok (y_load one_3 rfl (Holds.own 0 rfl rfl)) rfl rfl fun a E => ?_
  refine l_val E ok (y_add rfl rfl (InR.inc r20 (InR.len l19) hc23)) rfl rfl fun a E => ?_
  refine l_val E ok (y_nilCheck rfl) rfl rfl fun a E => ?_
  refine l_val E ok (y_fieldAddr fo_88_1 rfl) rfl rfl fun a E => ?_
  refine l_storeB E ok 0 rfl rfl rfl inf_3 rfl rfl ⟨rfl, trivial⟩ rfl rfl fun w ok => ?_
  refine wpList_nil ?_
  refine b_norm ?_
  obtain rfl := Option.some.inj hF
  exact step_n ⟨ok, E.keep [0], l19, (InR.inc r20 (InR.len l19) hc23), r21, r22⟩

def condition_letter_R (u : World) (m0 : Mem) (S : Segs) (r : Bool) (a : Act) (w : World) : Prop :=
  Ok u m0 S w ∧ a.defers = [] ∧ RVs Tryz.prog a w [.t 2 (.bool r)]
set_option maxHeartbeats 4000000 in
set_option maxRecDepth 100000 in
theorem condition_letter_w {u : World} {m0 : Mem} {S : Segs} {w : World} (N : Nat) (c_0 : Int) (rc_0 : InR .u8 c_0) {r : Bool} (hF : condition_letter N c_0 = some r) (hG : Glob u) (ok : Ok u m0 S w) :
    Calls Tryz.prog 122 [Value.int .u8 c_0].toArray w fun e w' => (e = .returned (.bool r) ∧ Ok u m0 S w') := by
  have hb0 := ok.base
  have le_m0 := Mem.le.refl m0
  unfold condition_letter at hF
  have fin : ∀ a w, condition_letter_R u m0 S r a w → bodyPost Tryz.prog Tryz.f122 (fun e w' => (e = .returned (.bool r) ∧ Ok u m0 S w')) .ret a w := by
    intro a w h
    obtain ⟨ok, hd, hrv⟩ := h
    exact c_ret2 [.t 2 (.bool r)] hd rfl hrv ⟨rfl, ok⟩
  refine enter Tryz.func122 rfl rfl rfl fun a E => ?_
  refine wp_seq ?_
  refine c_region ?_
  refine l_val E ok (y_assign rfl) rfl rfl fun a E => ?_
  refine wpList_nil ?_
  refine t_norm ?_
  refine wp_seq ?_
  refine c_region ?_
  refine l_val E ok (y_move rfl) rfl rfl fun a E => ?_
  refine l_val E ok (y_geq rfl rfl) rfl rfl fun a E => ?_
  refine l_val E ok (y_move rfl) rfl rfl fun a E => ?_
  refine bsplit (decide (c_0 ≥ 97)) (fun hc1 => ?_) (fun hc1 => ?_)
  · replace hF := cond_t hc1 hF
    replace E := E.upd 5 hc1 rfl
    refine l_val E ok (y_move rfl) rfl rfl fun a E => ?_
    refine l_val E ok (y_leq rfl rfl) rfl rfl fun a E => ?_
    refine l_val E ok (y_pickT rfl rfl) rfl rfl fun a E => ?_
    refine l_val E ok (y_assign rfl) rfl rfl fun a E => ?_
    refine wpList_nil ?_
    refine t_norm ?_
    refine wp_ret ?_
    have hret : condition_letter_R u m0 S (decide (c_0 ≤ 122)) a w := ⟨ok, E.d, ⟨rv_t E rfl, trivial⟩⟩
    obtain rfl := Option.some.inj hF
    exact fin _ _ hret
  replace hF := cond_f hc1 hF
  replace E := E.upd 5 hc1 rfl
  refine l_skip E rfl rfl fun a E => ?_
  refine l_skip E rfl rfl fun a E => ?_
  refine l_val E ok (y_pickF rfl rfl) rfl rfl fun a E => ?_
  refine l_val E ok (y_assign rfl) rfl rfl fun a E => ?_
  refine wpList_nil ?_
  refine t_norm ?_
  refine wp_ret ?_
  have hret : condition_letter_R u m0 S false a w := ⟨ok, E.d, ⟨rv_t E rfl, trivial⟩⟩
  obtain rfl := Option.some.inj hF
  exact fin _ _ hret

def condition_run__122_R (u : World) (m0 : Mem) (S : Segs) (r : (List UInt8)) (a : Act) (w : World) : Prop :=
  Ok u m0 S w ∧ a.defers = [] ∧ RVs Tryz.prog a w [.t 4 (.string (bs r))] ∧ r.length ≤ LIMS
set_option maxHeartbeats 4000000 in
set_option maxRecDepth 100000 in
theorem condition_run__122_w {u : World} {m0 : Mem} {S : Segs} {w : World} (N : Nat) (s_0 : List UInt8) (ls_0 : s_0.length ≤ LIMS) {r : (List UInt8)} (hF : condition_run__122 N s_0 = some r) (hG : Glob u) (ok : Ok u m0 S w) :
    Calls Tryz.prog 123 [Value.string (bs s_0), .func (.func 122) #[] #[]].toArray w fun e w' => (e = .returned (.string (bs r)) ∧ Ok u m0 S w') ∧ r.length ≤ LIMS := by
  have hb0 := ok.base
  have le_m0 := Mem.le.refl m0
  unfold condition_run__122 at hF
  have fin : ∀ a w, condition_run__122_R u m0 S r a w → bodyPost Tryz.prog Tryz.f123 (fun e w' => (e = .returned (.string (bs r)) ∧ Ok u m0 S w') ∧ r.length ≤ LIMS) .ret a w := by
    intro a w h
    obtain ⟨ok, hd, hrv, h0⟩ := h
    exact c_ret2 [.t 4 (.string (bs r))] hd rfl hrv ⟨⟨rfl, ok⟩, h0⟩
  refine enter Tryz.func123 rfl rfl rfl fun a E => ?_
  refine wp_seq ?_
  refine c_region ?_
  refine l_val E ok (y_assign rfl) rfl rfl fun a E => ?_
  refine wpList_nil ?_
  refine t_norm ?_
  refine wp_seq ?_
  refine c_region ?_
  refine l_val E ok (y_assign rfl) rfl rfl fun a E => ?_
  refine wpList_nil ?_
  refine t_norm ?_
  refine wp_seq ?_
  refine wp_block ?_
  obtain ⟨o2, hL, hF⟩ := bnd hF
  refine c_loop _ (fun (s : Int) a w => Ok u m0 (S) w ∧ Env 22 a [(0, (Value.string (bs s_0))), (1, (Value.func (.func 122) #[] #[])), (5, (Value.int .i64 s))] ∧ InR .i64 s) (fun (b : Int) e a w => e = (.exit 0) ∧ Ok u m0 (S) w ∧ Env 22 a [(0, (Value.string (bs s_0))), (5, (Value.int .i64 b))] ∧ InR .i64 b) ?_ ?_ N _ a w hL ⟨ok, E.keep [0, 1, 5], (show InR .i64 (0) by decide)⟩
  rotate_left
  · intro e a w _ hO
    obtain ⟨rfl, ok, E, r12⟩ := hO
    refine b_hit ?_
    refine t_norm ?_
    refine wp_seq ?_
    refine c_region ?_
    refine l_val E ok (y_move rfl) rfl rfl fun a E => ?_
    refine l_val E ok (y_move rfl) rfl rfl fun a E => ?_
    obtain ⟨s13, e14, hF⟩ := bnd hF
    refine l_val E ok (y_sslice Tryz.underlying9 e14 rfl rfl ⟨_, rfl⟩) rfl rfl fun a E => ?_
    refine l_val E ok (y_assign rfl) rfl rfl fun a E => ?_
    refine wpList_nil ?_
    refine t_norm ?_
    refine wp_ret ?_
    have hret : condition_run__122_R u m0 S s13 a w := ⟨ok, E.d, ⟨rv_t E rfl, trivial⟩, (Nat.le_trans (slc_len e14) ls_0)⟩
    obtain rfl := Option.some.inj hF
    exact fin _ _ hret
  rintro n_4 a w r ⟨ok, E, r5⟩ hF
  replace hF : condition_run__122_b1 N s_0 n_4 = some r := hF
  unfold condition_run__122_b1 at hF
  refine wp_seq ?_
  refine wp_seq ?_
  refine c_region ?_
  refine l_val E ok (y_move rfl) rfl rfl fun a E => ?_
  refine l_val E ok (y_move rfl) rfl rfl fun a E => ?_
  refine l_val E ok (y_slen Tryz.underlying9 rfl) rfl rfl fun a E => ?_
  refine l_val E ok (y_lss rfl rfl) rfl rfl fun a E => ?_
  refine l_val E ok (y_move rfl) rfl rfl fun a E => ?_
  refine bsplit (decide (n_4 < (s_0.length : Int))) (fun hc6 => ?_) (fun hc6 => ?_)
  rotate_left
  · replace hF := cond_f hc6 hF
    replace E := E.upd 10 hc6 rfl
    refine l_skip E rfl rfl fun a E => ?_
    refine l_skip E rfl rfl fun a E => ?_
    refine l_skip E rfl rfl fun a E => ?_
    refine l_skip E rfl rfl fun a E => ?_
    refine l_skip E rfl rfl fun a E => ?_
    refine l_val E ok (y_pickF rfl rfl) rfl rfl fun a E => ?_
    refine wpList_nil ?_
    refine t_norm ?_
    refine c_if E rfl (fun h => by cases h) (fun _ => ?_)
    refine wp_exit ?_
    refine t_exit ?_
    obtain rfl := Option.some.inj hF
    exact step_o (by nofun) (⟨rfl, ⟨ok, E.keep [0, 5], r5⟩⟩)
  replace hF := cond_t hc6 hF
  replace E := E.upd 10 hc6 rfl
  refine l_val E ok (y_move rfl) rfl rfl fun a E => ?_
  refine l_val E ok (y_move rfl) rfl rfl fun a E => ?_
  refine l_val E ok (y_move rfl) rfl rfl fun a E => ?_
  obtain ⟨c7, e8, hF⟩ := bnd hF
  refine l_val E ok (y_index Tryz.underlying9 rfl rfl e8) rfl rfl fun a E => ?_
  obtain ⟨r9, e10, hF⟩ := bnd hF
  refine l_callv E rfl go_122 rfl (condition_letter_w N (c7.toNat : Int) (InR.byte c7) e10 hG ok) rfl rfl ?_
  rintro _ w ⟨rfl, ok⟩
  refine ⟨_, rfl, fun a E => ?_⟩
  refine l_val E ok (y_pickT rfl rfl) rfl rfl fun a E => ?_
  refine wpList_nil ?_
  refine t_norm ?_
  refine c_if E rfl (fun hc11 => ?_) (fun hc11 => ?_)
  rotate_left
  · replace hF := cond_f hc11 hF
    refine wp_exit ?_
    refine t_exit ?_
    obtain rfl := Option.some.inj hF
    exact step_o (by nofun) (⟨rfl, ⟨ok, E.keep [0, 5], r5⟩⟩)
  replace hF := cond_t hc11 hF
  refine wp_skip ?_
  refine t_norm ?_
  refine wp_block ?_
  refine c_region ?_
  refine l_val E ok (y_move rfl) rfl rfl fun a E => ?_
  refine l_val E ok (y_add rfl rfl (InR.inc r5 (InR.len ls_0) hc6)) rfl rfl fun a E => ?_
  refine l_val E ok (y_assign rfl) rfl rfl fun a E => ?_
  refine wpList_nil ?_
  refine b_norm ?_
  obtain rfl := Option.some.inj hF
  exact step_n ⟨ok, E.keep [0, 1, 5], (InR.inc r5 (InR.len ls_0) hc6)⟩

def condition_digit_R (u : World) (m0 : Mem) (S : Segs) (r : Bool) (a : Act) (w : World) : Prop :=
  Ok u m0 S w ∧ a.defers = [] ∧ RVs Tryz.prog a w [.t 2 (.bool r)]
set_option maxHeartbeats 4000000 in
set_option maxRecDepth 100000 in
theorem condition_digit_w {u : World} {m0 : Mem} {S : Segs} {w : World} (N : Nat) (c_0 : Int) (rc_0 : InR .u8 c_0) {r : Bool} (hF : condition_digit N c_0 = some r) (hG : Glob u) (ok : Ok u m0 S w) :
    Calls Tryz.prog 124 [Value.int .u8 c_0].toArray w fun e w' => (e = .returned (.bool r) ∧ Ok u m0 S w') := by
  have hb0 := ok.base
  have le_m0 := Mem.le.refl m0
  unfold condition_digit at hF
  have fin : ∀ a w, condition_digit_R u m0 S r a w → bodyPost Tryz.prog Tryz.f124 (fun e w' => (e = .returned (.bool r) ∧ Ok u m0 S w')) .ret a w := by
    intro a w h
    obtain ⟨ok, hd, hrv⟩ := h
    exact c_ret2 [.t 2 (.bool r)] hd rfl hrv ⟨rfl, ok⟩
  refine enter Tryz.func124 rfl rfl rfl fun a E => ?_
  refine wp_seq ?_
  refine c_region ?_
  refine l_val E ok (y_assign rfl) rfl rfl fun a E => ?_
  refine wpList_nil ?_
  refine t_norm ?_
  refine wp_seq ?_
  refine c_region ?_
  refine l_val E ok (y_move rfl) rfl rfl fun a E => ?_
  refine l_val E ok (y_geq rfl rfl) rfl rfl fun a E => ?_
  refine l_val E ok (y_move rfl) rfl rfl fun a E => ?_
  refine bsplit (decide (c_0 ≥ 48)) (fun hc1 => ?_) (fun hc1 => ?_)
  · replace hF := cond_t hc1 hF
    replace E := E.upd 5 hc1 rfl
    refine l_val E ok (y_move rfl) rfl rfl fun a E => ?_
    refine l_val E ok (y_leq rfl rfl) rfl rfl fun a E => ?_
    refine l_val E ok (y_pickT rfl rfl) rfl rfl fun a E => ?_
    refine l_val E ok (y_assign rfl) rfl rfl fun a E => ?_
    refine wpList_nil ?_
    refine t_norm ?_
    refine wp_ret ?_
    have hret : condition_digit_R u m0 S (decide (c_0 ≤ 57)) a w := ⟨ok, E.d, ⟨rv_t E rfl, trivial⟩⟩
    obtain rfl := Option.some.inj hF
    exact fin _ _ hret
  replace hF := cond_f hc1 hF
  replace E := E.upd 5 hc1 rfl
  refine l_skip E rfl rfl fun a E => ?_
  refine l_skip E rfl rfl fun a E => ?_
  refine l_val E ok (y_pickF rfl rfl) rfl rfl fun a E => ?_
  refine l_val E ok (y_assign rfl) rfl rfl fun a E => ?_
  refine wpList_nil ?_
  refine t_norm ?_
  refine wp_ret ?_
  have hret : condition_digit_R u m0 S false a w := ⟨ok, E.d, ⟨rv_t E rfl, trivial⟩⟩
  obtain rfl := Option.some.inj hF
  exact fin _ _ hret

def condition_run__124_R (u : World) (m0 : Mem) (S : Segs) (r : (List UInt8)) (a : Act) (w : World) : Prop :=
  Ok u m0 S w ∧ a.defers = [] ∧ RVs Tryz.prog a w [.t 4 (.string (bs r))] ∧ r.length ≤ LIMS
set_option maxHeartbeats 4000000 in
set_option maxRecDepth 100000 in
theorem condition_run__124_w {u : World} {m0 : Mem} {S : Segs} {w : World} (N : Nat) (s_0 : List UInt8) (ls_0 : s_0.length ≤ LIMS) {r : (List UInt8)} (hF : condition_run__124 N s_0 = some r) (hG : Glob u) (ok : Ok u m0 S w) :
    Calls Tryz.prog 123 [Value.string (bs s_0), .func (.func 124) #[] #[]].toArray w fun e w' => (e = .returned (.string (bs r)) ∧ Ok u m0 S w') ∧ r.length ≤ LIMS := by
  have hb0 := ok.base
  have le_m0 := Mem.le.refl m0
  unfold condition_run__124 at hF
  have fin : ∀ a w, condition_run__124_R u m0 S r a w → bodyPost Tryz.prog Tryz.f123 (fun e w' => (e = .returned (.string (bs r)) ∧ Ok u m0 S w') ∧ r.length ≤ LIMS) .ret a w := by
    intro a w h
    obtain ⟨ok, hd, hrv, h0⟩ := h
    exact c_ret2 [.t 4 (.string (bs r))] hd rfl hrv ⟨⟨rfl, ok⟩, h0⟩
  refine enter Tryz.func123 rfl rfl rfl fun a E => ?_
  refine wp_seq ?_
  refine c_region ?_
  refine l_val E ok (y_assign rfl) rfl rfl fun a E => ?_
  refine wpList_nil ?_
  refine t_norm ?_
  refine wp_seq ?_
  refine c_region ?_
  refine l_val E ok (y_assign rfl) rfl rfl fun a E => ?_
  refine wpList_nil ?_
  refine t_norm ?_
  refine wp_seq ?_
  refine wp_block ?_
  obtain ⟨o2, hL, hF⟩ := bnd hF
  refine c_loop _ (fun (s : Int) a w => Ok u m0 (S) w ∧ Env 22 a [(0, (Value.string (bs s_0))), (1, (Value.func (.func 124) #[] #[])), (5, (Value.int .i64 s))] ∧ InR .i64 s) (fun (b : Int) e a w => e = (.exit 0) ∧ Ok u m0 (S) w ∧ Env 22 a [(0, (Value.string (bs s_0))), (5, (Value.int .i64 b))] ∧ InR .i64 b) ?_ ?_ N _ a w hL ⟨ok, E.keep [0, 1, 5], (show InR .i64 (0) by decide)⟩
  rotate_left
  · intro e a w _ hO
    obtain ⟨rfl, ok, E, r12⟩ := hO
    refine b_hit ?_
    refine t_norm ?_
    refine wp_seq ?_
    refine c_region ?_
    refine l_val E ok (y_move rfl) rfl rfl fun a E => ?_
    refine l_val E ok (y_move rfl) rfl rfl fun a E => ?_
    obtain ⟨s13, e14, hF⟩ := bnd hF
    refine l_val E ok (y_sslice Tryz.underlying9 e14 rfl rfl ⟨_, rfl⟩) rfl rfl fun a E => ?_
    refine l_val E ok (y_assign rfl) rfl rfl fun a E => ?_
    refine wpList_nil ?_
    refine t_norm ?_
    refine wp_ret ?_
    have hret : condition_run__124_R u m0 S s13 a w := ⟨ok, E.d, ⟨rv_t E rfl, trivial⟩, (Nat.le_trans (slc_len e14) ls_0)⟩
    obtain rfl := Option.some.inj hF
    exact fin _ _ hret
  rintro n_4 a w r ⟨ok, E, r5⟩ hF
  replace hF : condition_run__124_b1 N s_0 n_4 = some r := hF
  unfold condition_run__124_b1 at hF
  refine wp_seq ?_
  refine wp_seq ?_
  refine c_region ?_
  refine l_val E ok (y_move rfl) rfl rfl fun a E => ?_
  refine l_val E ok (y_move rfl) rfl rfl fun a E => ?_
  refine l_val E ok (y_slen Tryz.underlying9 rfl) rfl rfl fun a E => ?_
  refine l_val E ok (y_lss rfl rfl) rfl rfl fun a E => ?_
  refine l_val E ok (y_move rfl) rfl rfl fun a E => ?_
  refine bsplit (decide (n_4 < (s_0.length : Int))) (fun hc6 => ?_) (fun hc6 => ?_)
  rotate_left
  · replace hF := cond_f hc6 hF
    replace E := E.upd 10 hc6 rfl
    refine l_skip E rfl rfl fun a E => ?_
    refine l_skip E rfl rfl fun a E => ?_
    refine l_skip E rfl rfl fun a E => ?_
    refine l_skip E rfl rfl fun a E => ?_
    refine l_skip E rfl rfl fun a E => ?_
    refine l_val E ok (y_pickF rfl rfl) rfl rfl fun a E => ?_
    refine wpList_nil ?_
    refine t_norm ?_
    refine c_if E rfl (fun h => by cases h) (fun _ => ?_)
    refine wp_exit ?_
    refine t_exit ?_
    obtain rfl := Option.some.inj hF
    exact step_o (by nofun) (⟨rfl, ⟨ok, E.keep [0, 5], r5⟩⟩)
  replace hF := cond_t hc6 hF
  replace E := E.upd 10 hc6 rfl
  refine l_val E ok (y_move rfl) rfl rfl fun a E => ?_
  refine l_val E ok (y_move rfl) rfl rfl fun a E => ?_
  refine l_val E ok (y_move rfl) rfl rfl fun a E => ?_
  obtain ⟨c7, e8, hF⟩ := bnd hF
  refine l_val E ok (y_index Tryz.underlying9 rfl rfl e8) rfl rfl fun a E => ?_
  obtain ⟨r9, e10, hF⟩ := bnd hF
  refine l_callv E rfl go_124 rfl (condition_digit_w N (c7.toNat : Int) (InR.byte c7) e10 hG ok) rfl rfl ?_
  rintro _ w ⟨rfl, ok⟩
  refine ⟨_, rfl, fun a E => ?_⟩
  refine l_val E ok (y_pickT rfl rfl) rfl rfl fun a E => ?_
  refine wpList_nil ?_
  refine t_norm ?_
  refine c_if E rfl (fun hc11 => ?_) (fun hc11 => ?_)
  rotate_left
  · replace hF := cond_f hc11 hF
    refine wp_exit ?_
    refine t_exit ?_
    obtain rfl := Option.some.inj hF
    exact step_o (by nofun) (⟨rfl, ⟨ok, E.keep [0, 5], r5⟩⟩)
  replace hF := cond_t hc11 hF
  refine wp_skip ?_
  refine t_norm ?_
  refine wp_block ?_
  refine c_region ?_
  refine l_val E ok (y_move rfl) rfl rfl fun a E => ?_
  refine l_val E ok (y_add rfl rfl (InR.inc r5 (InR.len ls_0) hc6)) rfl rfl fun a E => ?_
  refine l_val E ok (y_assign rfl) rfl rfl fun a E => ?_
  refine wpList_nil ?_
  refine b_norm ?_
  obtain rfl := Option.some.inj hF
  exact step_n ⟨ok, E.keep [0, 1, 5], (InR.inc r5 (InR.len ls_0) hc6)⟩

theorem strings_HasPrefix_w {u : World} {m0 : Mem} {S : Segs} {w : World} (N : Nat) (p0_0 : List UInt8) (lp0_0 : p0_0.length ≤ LIMS) (p1_1 : List UInt8) (lp1_1 : p1_1.length ≤ LIMS) {r : Bool} (hF : strings_HasPrefix N p0_0 p1_1 = some r) (hG : Glob u) (ok : Ok u m0 S w) :
    Calls Tryz.prog 125 [Value.string (bs p0_0), Value.string (bs p1_1)].toArray w fun e w' => (e = .returned (.bool r) ∧ Ok u m0 S w') := lib_HasPrefix Tryz.lays99 p0_0 p1_1 hF ok

def condition_parser_peek_R (u : World) (m0 : Mem) (S : Segs) (pb0 : Nat) (x0 : Parser) (r : (List UInt8) × Parser) (a : Act) (w : World) : Prop :=
  Ok u m0 ([(pb0, Obj.cells [(Value.string (bs r.2.s)), (Value.int .i64 r.2.at_), (Value.int .i64 r.2.relations), (Value.int .i64 r.2.e)].toArray 88 (0, 0))] :: S) w ∧ a.defers = [] ∧ RVs Tryz.prog a w [.t 2 (.string (bs r.1))] ∧ r.1.length ≤ LIMS ∧ r.2.s.length ≤ LIMS ∧ InR .i64 r.2.at_ ∧ InR .i64 r.2.relations ∧ InR .i64 r.2.e
set_option maxHeartbeats 4000000 in
set_option maxRecDepth 100000 in
theorem condition_parser_peek_w {u : World} {m0 : Mem} {S : Segs} {w : World} (N : Nat) {pb0 : Nat} (x0 : Parser) (l1 : x0.s.length ≤ LIMS) (r2 : InR .i64 x0.at_) (r3 : InR .i64 x0.relations) (r4 : InR .i64 x0.e) {r : (List UInt8) × Parser} (hF : condition_parser_peek N x0 = some r) (hG : Glob u) (ok : Ok u m0 ([(pb0, Obj.cells [(Value.string (bs x0.s)), (Value.int .i64 x0.at_), (Value.int .i64 x0.relations), (Value.int .i64 x0.e)].toArray 88 (0, 0))] :: S) w) :
    Calls Tryz.prog 94 [Value.pointer (some ⟨pb0, 0, none⟩)].toArray w fun e w' => (e = .returned (.string (bs r.1)) ∧ Ok u m0 ([(pb0, Obj.cells [(Value.string (bs r.2.s)), (Value.int .i64 r.2.at_), (Value.int .i64 r.2.relations), (Value.int .i64 r.2.e)].toArray 88 (0, 0))] :: S) w') ∧ r.1.length ≤ LIMS ∧ r.2.s.length ≤ LIMS ∧ InR .i64 r.2.at_ ∧ InR .i64 r.2.relations ∧ InR .i64 r.2.e := by
  have hb0 := ok.base
  have le_m0 := Mem.le.refl m0
  unfold condition_parser_peek at hF
  have fin : ∀ a w, condition_parser_peek_R u m0 S pb0 x0 r a w → bodyPost Tryz.prog Tryz.f94 (fun e w' => (e = .returned (.string (bs r.1)) ∧ Ok u m0 ([(pb0, Obj.cells [(Value.string (bs r.2.s)), (Value.int .i64 r.2.at_), (Value.int .i64 r.2.relations), (Value.int .i64 r.2.e)].toArray 88 (0, 0))] :: S) w') ∧ r.1.length ≤ LIMS ∧ r.2.s.length ≤ LIMS ∧ InR .i64 r.2.at_ ∧ InR .i64 r.2.relations ∧ InR .i64 r.2.e) .ret a w := by
    intro a w h
    obtain ⟨ok, hd, hrv, h0, h1, h2, h3, h4⟩ := h
    exact c_ret2 [.t 2 (.string (bs r.1))] hd rfl hrv ⟨⟨rfl, ok⟩, h0, h1, h2, h3, h4⟩
  refine enter Tryz.func94 rfl rfl rfl fun a E => ?_
  refine wp_seq ?_
  refine c_region ?_
  refine l_val E ok (y_assign rfl) rfl rfl fun a E => ?_
  refine wpList_nil ?_
  refine t_norm ?_
  refine wp_seq ?_
  refine c_region ?_
  refine l_val E ok (y_move rfl) rfl rfl fun a E => ?_
  obtain ⟨r9, e10, hF⟩ := bnd hF
  refine l_call E go_70 rfl (condition_parser_skip_w N x0 l1 r2 r3 r4 e10 hG ok) rfl rfl ?_
  rintro _ w ⟨⟨rfl, ok⟩, l11, r12, r13, r14⟩
  refine ⟨_, rfl, fun a E => ?_⟩
  refine wpList_nil ?_
  refine t_norm ?_
  refine wp_seq ?_
  refine c_draw (by kernel_rfl) (by kernel_rfl) ok ?_
  refine q_val E (y_move rfl) rfl rfl fun a E => ?_
  refine q_val E (y_nilCheck rfl) rfl rfl fun a E => ?_
  refine q_val E (y_fieldAddr fo_88_0 rfl) rfl rfl fun a E => ?_
  refine q_val E (y_load one_9 rfl (Holds.own 0 rfl rfl)) rfl rfl fun a E => ?_
  refine q_val E (y_move rfl) rfl rfl fun a E => ?_
  refine q_val E (y_nilCheck rfl) rfl rfl fun a E => ?_
  refine q_val E (y_fieldAddr fo_88_1 rfl) rfl rfl fun a E => ?_
  refine q_val E (y_load one_3 rfl (Holds.own 0 rfl rfl)) rfl rfl fun a E => ?_
  obtain ⟨s15, e16, hF⟩ := bnd hF
  refine q_val E (y_sslice Tryz.underlying9 e16 rfl ⟨_, rfl⟩ rfl) rfl rfl fun a E => ?_
  refine q_val E (y_assign rfl) rfl rfl fun a E => ?_
  refine wpQuiet_nil ?_
  intro w ok
  refine t_norm ?_
  refine wp_seq ?_
  refine wp_block ?_
  refine wp_seq ?_
  refine c_region ?_
  refine l_val E ok (y_move rfl) rfl rfl fun a E => ?_
  refine l_val E ok (y_seql rfl rfl) rfl rfl fun a E => ?_
  refine l_val E ok (y_assign rfl) rfl rfl fun a E => ?_
  refine wpList_nil ?_
  refine t_norm ?_
  refine c_if E rfl (fun hc17 => ?_) (fun hc17 => ?_)
  · replace hF := cond_t hc17 hF
    refine wp_seq ?_
    refine c_region ?_
    refine l_val E ok (y_assign rfl) rfl rfl fun a E => ?_
    refine wpList_nil ?_
    refine t_norm ?_
    refine wp_ret ?_
    refine b_ret ?_
    refine t_ret ?_
    have hret : condition_parser_peek_R u m0 S pb0 x0 ([], r9) a w := ⟨ok, E.d, ⟨rv_t E rfl, trivial⟩, (show ([] : List UInt8).length ≤ LIMS by decide), l11, r12, r13, r14⟩
    obtain rfl := Option.some.inj hF
    exact fin _ _ hret
  replace hF := cond_f hc17 hF
  refine wp_seq ?_
  refine c_region ?_
  refine l_val E ok (y_move rfl) rfl rfl fun a E => ?_
  obtain ⟨c18, e19, hF⟩ := bnd hF
  refine l_val E ok (y_index Tryz.underlying9 rfl rfl e19) rfl rfl fun a E => ?_
  obtain ⟨r20, e21, hF⟩ := bnd hF
  refine l_call E go_122 rfl (condition_letter_w N (c18.toNat : Int) (InR.byte c18) e21 hG ok) rfl rfl ?_
  rintro _ w ⟨rfl, ok⟩
  refine ⟨_, rfl, fun a E => ?_⟩
  refine l_val E ok (y_assign rfl) rfl rfl fun a E => ?_
  refine wpList_nil ?_
  refine t_norm ?_
  refine c_if E rfl (fun hc22 => ?_) (fun hc22 => ?_)
  · replace hF := cond_t hc22 hF
    refine wp_seq ?_
    refine c_region ?_
    refine l_val E ok (y_move rfl) rfl rfl fun a E => ?_
    obtain ⟨r23, e24, hF⟩ := bnd hF
    refine l_call E go_123 rfl (condition_run__122_w N s15 (Nat.le_trans (slc_len e16) l11) e24 hG ok) rfl rfl ?_
    rintro _ w ⟨⟨rfl, ok⟩, l25⟩
    refine ⟨_, rfl, fun a E => ?_⟩
    refine l_val E ok (y_assign rfl) rfl rfl fun a E => ?_
    refine wpList_nil ?_
    refine t_norm ?_
    refine wp_ret ?_
    refine b_ret ?_
    refine t_ret ?_
    have hret : condition_parser_peek_R u m0 S pb0 x0 (r23, r9) a w := ⟨ok, E.d, ⟨rv_t E rfl, trivial⟩, l25, l11, r12, r13, r14⟩
    obtain rfl := Option.some.inj hF
    exact fin _ _ hret
  replace hF := cond_f hc22 hF
  refine wp_seq ?_
  refine c_region ?_
  refine l_val E ok (y_move rfl) rfl rfl fun a E => ?_
  obtain ⟨c26, e27, hF⟩ := bnd hF
  refine l_val E ok (y_index Tryz.underlying9 rfl rfl e27) rfl rfl fun a E => ?_
  obtain ⟨r28, e29, hF⟩ := bnd hF
  refine l_call E go_124 rfl (condition_digit_w N (c26.toNat : Int) (InR.byte c26) e29 hG ok) rfl rfl ?_
  rintro _ w ⟨rfl, ok⟩
  refine ⟨_, rfl, fun a E => ?_⟩
  refine l_val E ok (y_assign rfl) rfl rfl fun a E => ?_
  refine wpList_nil ?_
  refine t_norm ?_
  refine c_if E rfl (fun hc30 => ?_) (fun hc30 => ?_)
  · replace hF := cond_t hc30 hF
    refine wp_seq ?_
    refine c_region ?_
    refine l_val E ok (y_move rfl) rfl rfl fun a E => ?_
    obtain ⟨r31, e32, hF⟩ := bnd hF
    refine l_call E go_123 rfl (condition_run__124_w N s15 (Nat.le_trans (slc_len e16) l11) e32 hG ok) rfl rfl ?_
    rintro _ w ⟨⟨rfl, ok⟩, l33⟩
    refine ⟨_, rfl, fun a E => ?_⟩
    refine l_val E ok (y_assign rfl) rfl rfl fun a E => ?_
    refine wpList_nil ?_
    refine t_norm ?_
    refine wp_ret ?_
    refine b_ret ?_
    refine t_ret ?_
    have hret : condition_parser_peek_R u m0 S pb0 x0 (r31, r9) a w := ⟨ok, E.d, ⟨rv_t E rfl, trivial⟩, l33, l11, r12, r13, r14⟩
    obtain rfl := Option.some.inj hF
    exact fin _ _ hret
  replace hF := cond_f hc30 hF
  refine wp_skip ?_
  refine b_norm ?_
  refine t_norm ?_
  refine wp_seq ?_
  refine wp_seq ?_
  refine c_region ?_
  refine l_slit (R := pS) (xo := [.const (Value.string (bs ([46, 46]))), .const (Value.string (bs ([33, 61]))), .const (Value.string (bs ([37]))), .const (Value.string (bs ([61]))), .const (Value.string (bs ([44])))]) (xs := ([[46, 46], [33, 61], [37], [61], [44]] : List (List UInt8))) E ok sl_32 zero_9 rfl ⟨⟨_, rfl, rfl, (pS_mk (show ([46, 46] : List UInt8).length ≤ LIMS by decide))⟩, ⟨_, rfl, rfl, (pS_mk (show ([33, 61] : List UInt8).length ≤ LIMS by decide))⟩, ⟨_, rfl, rfl, (pS_mk (show ([37] : List UInt8).length ≤ LIMS by decide))⟩, ⟨_, rfl, rfl, (pS_mk (show ([61] : List UInt8).length ≤ LIMS by decide))⟩, ⟨_, rfl, rfl, (pS_mk (show ([44] : List UInt8).length ≤ LIMS by decide))⟩, trivial⟩ rfl rfl rfl rfl fun c34 M35 a w E ok h36 => ?_
  refine l_val E ok (y_lenR sl_32 h36 rfl) rfl rfl fun a E => ?_
  refine l_val E ok (y_move rfl) rfl rfl fun a E => ?_
  refine wpList_nil ?_
  refine t_norm ?_
  refine wp_block ?_
  obtain ⟨o38, hL, hF⟩ := bnd hF
  refine c_loop _ (fun (s : Int) a w => Ok u m0 (M35 :: [(pb0, Obj.cells [(Value.string (bs r9.s)), (Value.int .i64 r9.at_), (Value.int .i64 r9.relations), (Value.int .i64 r9.e)].toArray 88 (0, 0))] :: S) w ∧ Env 43 a [(3, (Value.string (bs s15))), (32, c34), (33, (Value.int .i64 (([[46, 46], [33, 61], [37], [61], [44]] : List (List UInt8)).length : Int))), (34, (Value.int .i64 s))] ∧ InR .i64 s) (fun (b : (Unit ⊕ ((List UInt8) × Parser))) e a w => (Sum.elim (fun b57 => e = (.exit 1) ∧ Ok u m0 (M35 :: [(pb0, Obj.cells [(Value.string (bs r9.s)), (Value.int .i64 r9.at_), (Value.int .i64 r9.relations), (Value.int .i64 r9.e)].toArray 88 (0, 0))] :: S) w ∧ Env 43 a []) (fun b58 => e = .ret ∧ condition_parser_peek_R u m0 S pb0 x0 b58 a w)) b) ?_ ?_ N _ a w hL ⟨ok, E.keep [3, 32, 33, 34], (show InR .i64 (0) by decide)⟩
  rotate_left
  · intro e a w _ hO
    rcases o38 with o38 | o38
    rotate_left
    · replace hF := elim_r hF
      obtain ⟨rfl, hret⟩ := hO
      refine b_ret ?_
      refine t_ret ?_
      obtain rfl := Option.some.inj hF
      exact fin _ _ hret
    replace hF := elim_l hF
    obtain ⟨rfl, ok, E⟩ := hO
    refine b_hit ?_
    refine t_norm ?_
    refine wp_seq ?_
    refine c_region ?_
    refine l_val E ok (y_assign rfl) rfl rfl fun a E => ?_
    refine wpList_nil ?_
    refine t_norm ?_
    refine wp_ret ?_
    have hret : condition_parser_peek_R u m0 S pb0 x0 ([], r9) a w := ⟨ok.drop, E.d, ⟨rv_t E rfl, trivial⟩, (show ([] : List UInt8).length ≤ LIMS by decide), l11, r12, r13, r14⟩
    obtain rfl := Option.some.inj hF
    exact fin _ _ hret
  rintro x_40 a w r ⟨ok, E, r41⟩ hF
  replace hF : condition_parser_peek_b1 N r9 s15 x_40 = some r := hF
  unfold condition_parser_peek_b1 at hF
  refine wp_seq ?_
  refine c_region ?_
  refine l_val E ok (y_lss rfl rfl) rfl rfl fun a E => ?_
  refine wpList_nil ?_
  refine t_norm ?_
  refine wp_seq ?_
  refine c_if E rfl (fun hc42 => ?_) (fun hc42 => ?_)
  rotate_left
  · replace hF := cond_f hc42 hF
    refine wp_exit ?_
    refine t_exit ?_
    obtain rfl := Option.some.inj hF
    exact step_o (by nofun) (sl ⟨rfl, ⟨ok, E.keep []⟩⟩)
  replace hF := cond_t hc42 hF
  refine wp_skip ?_
  refine t_norm ?_
  refine wp_seq ?_
  refine wp_block ?_
  refine wp_seq ?_
  refine c_region ?_
  obtain ⟨x43, e44, hF⟩ := bnd hF
  obtain ⟨b45, o46, hp47, yy48⟩ := orowAt sl_32 h36 e44 (P := Tryz.prog) (X := .tmp 32) (I := .tmp 34) (kd := .i64) (ev_of E rfl) (ev_of E rfl)
  refine l_val E ok (yy48 _ _) rfl rfl fun a E => ?_
  obtain ⟨es49, hl50, rr51, hh52⟩ := orowGet h36 e44 hp47 (by decide)
  obtain ⟨rfl, l53⟩ := rr51
  refine l_val E ok (y_load one_9 rfl (hh52 _ _ _ 0 rfl)) rfl rfl fun a E => ?_
  refine l_val E ok (y_assign rfl) rfl rfl fun a E => ?_
  refine wpList_nil ?_
  refine t_norm ?_
  refine wp_seq ?_
  refine c_region ?_
  refine l_val E ok (y_move rfl) rfl rfl fun a E => ?_
  refine l_val E ok (y_move rfl) rfl rfl fun a E => ?_
  obtain ⟨r54, e55, hF⟩ := bnd hF
  refine l_call E go_125 rfl (strings_HasPrefix_w N s15 (Nat.le_trans (slc_len e16) l11) x43 l53 e55 hG ok) rfl rfl ?_
  rintro _ w ⟨rfl, ok⟩
  refine ⟨_, rfl, fun a E => ?_⟩
  refine wpList_nil ?_
  refine t_norm ?_
  refine c_if E rfl (fun hc56 => ?_) (fun hc56 => ?_)
  rotate_left
  · replace hF := cond_f hc56 hF
    refine wp_skip ?_
    refine b_norm ?_
    refine t_norm ?_
    refine c_region ?_
    refine l_val E ok (y_add rfl rfl (InR.inc r41 (ORow.InR h36) hc42)) rfl rfl fun a E => ?_
    refine l_val E ok (y_move rfl) rfl rfl fun a E => ?_
    refine wpList_nil ?_
    obtain rfl := Option.some.inj hF
    exact step_n ⟨ok, E.keep [3, 32, 33, 34], (InR.inc r41 (ORow.InR h36) hc42)⟩
  replace hF := cond_t hc56 hF
  refine wp_seq ?_
  refine c_region ?_
  refine l_val E ok (y_move rfl) rfl rfl fun a E => ?_
  refine l_val E ok (y_assign rfl) rfl rfl fun a E => ?_
  refine wpList_nil ?_
  refine t_norm ?_
  refine wp_ret ?_
  refine b_ret ?_
  refine t_ret ?_
  have hret : condition_parser_peek_R u m0 S pb0 x0 (x43, r9) a w := ⟨ok.drop, E.d, ⟨rv_t E rfl, trivial⟩, l53, l11, r12, r13, r14⟩
  obtain rfl := Option.some.inj hF
  exact step_o (by nofun) (sr ⟨rfl, hret⟩)

def condition_parser_next_R (u : World) (m0 : Mem) (S : Segs) (pb0 : Nat) (x0 : Parser) (r : Bool × Parser) (a : Act) (w : World) : Prop :=
  Ok u m0 ([(pb0, Obj.cells [(Value.string (bs r.2.s)), (Value.int .i64 r.2.at_), (Value.int .i64 r.2.relations), (Value.int .i64 r.2.e)].toArray 88 (0, 0))] :: S) w ∧ a.defers = [] ∧ RVs Tryz.prog a w [.t 4 (.bool r.1)] ∧ r.2.s.length ≤ LIMS ∧ InR .i64 r.2.at_ ∧ InR .i64 r.2.relations ∧ InR .i64 r.2.e
set_option maxHeartbeats 4000000 in
set_option maxRecDepth 100000 in
theorem condition_parser_next_w {u : World} {m0 : Mem} {S : Segs} {w : World} (N : Nat) (t_1 : List UInt8) (lt_1 : t_1.length ≤ LIMS) {pb0 : Nat} (x0 : Parser) (l1 : x0.s.length ≤ LIMS) (r2 : InR .i64 x0.at_) (r3 : InR .i64 x0.relations) (r4 : InR .i64 x0.e) {r : Bool × Parser} (hF : condition_parser_next N t_1 x0 = some r) (hG : Glob u) (ok : Ok u m0 ([(pb0, Obj.cells [(Value.string (bs x0.s)), (Value.int .i64 x0.at_), (Value.int .i64 x0.relations), (Value.int .i64 x0.e)].toArray 88 (0, 0))] :: S) w) :
    Calls Tryz.prog 68 [Value.pointer (some ⟨pb0, 0, none⟩), Value.string (bs t_1)].toArray w fun e w' => (e = .returned (.bool r.1) ∧ Ok u m0 ([(pb0, Obj.cells [(Value.string (bs r.2.s)), (Value.int .i64 r.2.at_), (Value.int .i64 r.2.relations), (Value.int .i64 r.2.e)].toArray 88 (0, 0))] :: S) w') ∧ r.2.s.length ≤ LIMS ∧ InR .i64 r.2.at_ ∧ InR .i64 r.2.relations ∧ InR .i64 r.2.e := by
  have hb0 := ok.base
  have le_m0 := Mem.le.refl m0
  unfold condition_parser_next at hF
  have fin : ∀ a w, condition_parser_next_R u m0 S pb0 x0 r a w → bodyPost Tryz.prog Tryz.f68 (fun e w' => (e = .returned (.bool r.1) ∧ Ok u m0 ([(pb0, Obj.cells [(Value.string (bs r.2.s)), (Value.int .i64 r.2.at_), (Value.int .i64 r.2.relations), (Value.int .i64 r.2.e)].toArray 88 (0, 0))] :: S) w') ∧ r.2.s.length ≤ LIMS ∧ InR .i64 r.2.at_ ∧ InR .i64 r.2.relations ∧ InR .i64 r.2.e) .ret a w := by
    intro a w h
    obtain ⟨ok, hd, hrv, h0, h1, h2, h3⟩ := h
    exact c_ret2 [.t 4 (.bool r.1)] hd rfl hrv ⟨⟨rfl, ok⟩, h0, h1, h2, h3⟩
  refine enter Tryz.func68 rfl rfl rfl fun a E => ?_
  refine wp_seq ?_
  refine c_region ?_
  refine l_val E ok (y_assign rfl) rfl rfl fun a E => ?_
  refine wpList_nil ?_
  refine t_norm ?_
  refine wp_seq ?_
  refine wp_seq ?_
  refine c_region ?_
  refine l_val E ok (y_move rfl) rfl rfl fun a E => ?_
  refine l_val E ok (y_nilCheck rfl) rfl rfl fun a E => ?_
  refine l_val E ok (y_fieldAddr fo_88_3 rfl) rfl rfl fun a E => ?_
  refine l_val E ok (y_load one_25 rfl (Holds.own 0 rfl rfl)) rfl rfl fun a E => ?_
  refine l_val E ok (y_neq rfl rfl) rfl rfl fun a E => ?_
  refine l_val E ok (y_move rfl) rfl rfl fun a E => ?_
  refine bsplit (x0.e != 0) (fun hc9 => ?_) (fun hc9 => ?_)
  · replace hF := cond_t hc9 hF
    replace E := E.upd 10 hc9 rfl
    refine l_skip E rfl rfl fun a E => ?_
    refine l_skip E rfl rfl fun a E => ?_
    refine l_skip E rfl rfl fun a E => ?_
    refine l_skip E rfl rfl fun a E => ?_
    refine l_val E ok (y_pickT rfl rfl) rfl rfl fun a E => ?_
    refine wpList_nil ?_
    refine t_norm ?_
    refine c_if E rfl (fun _ => ?_) (fun h => by cases h)
    refine wp_seq ?_
    refine c_region ?_
    refine l_val E ok (y_assign rfl) rfl rfl fun a E => ?_
    refine wpList_nil ?_
    refine t_norm ?_
    refine wp_ret ?_
    refine t_ret ?_
    have hret : condition_parser_next_R u m0 S pb0 x0 (false, x0) a w := ⟨ok, E.d, ⟨rv_t E rfl, trivial⟩, l1, r2, r3, r4⟩
    obtain rfl := Option.some.inj hF
    exact fin _ _ hret
  replace hF := cond_f hc9 hF
  replace E := E.upd 10 hc9 rfl
  refine l_val E ok (y_move rfl) rfl rfl fun a E => ?_
  obtain ⟨r10, e11, hF⟩ := bnd hF
  refine l_call E go_94 rfl (condition_parser_peek_w N x0 l1 r2 r3 r4 e11 hG ok) rfl rfl ?_
  rintro _ w ⟨⟨rfl, ok⟩, l12, l13, r14, r15, r16⟩
  refine ⟨_, rfl, fun a E => ?_⟩
  refine l_val E ok (y_move rfl) rfl rfl fun a E => ?_
  refine l_val E ok (y_sneq rfl rfl) rfl rfl fun a E => ?_
  refine l_val E ok (y_pickF rfl rfl) rfl rfl fun a E => ?_
  refine wpList_nil ?_
  refine t_norm ?_
  refine c_if E rfl (fun hc17 => ?_) (fun hc17 => ?_)
  · replace hF := cond_t hc17 hF
    refine wp_seq ?_
    refine c_region ?_
    refine l_val E ok (y_assign rfl) rfl rfl fun a E => ?_
    refine wpList_nil ?_
    refine t_norm ?_
    refine wp_ret ?_
    refine t_ret ?_
    have hret : condition_parser_next_R u m0 S pb0 x0 (false, r10.2) a w := ⟨ok, E.d, ⟨rv_t E rfl, trivial⟩, l13, r14, r15, r16⟩
    obtain rfl := Option.some.inj hF
    exact fin _ _ hret
  replace hF := cond_f hc17 hF
  refine wp_skip ?_
  refine t_norm ?_
  refine wp_seq ?_
  refine c_region ?_
  refine l_val E ok (y_move rfl) rfl rfl fun a E => ?_
  refine l_val E ok (y_nilCheck rfl) rfl rfl fun a E => ?_
  refine l_val E ok (y_fieldAddr fo_88_1 rfl) rfl rfl fun a E => ?_
  refine l_val E ok (y_load one_3 rfl (Holds.own 0 rfl rfl)) rfl rfl fun a E => ?_
  refine l_val E ok (y_move rfl) rfl rfl fun a E => ?_
  refine l_val E ok (y_slen Tryz.underlying9 rfl) rfl rfl fun a E => ?_
  refine l_val E ok (y_addw rfl rfl) rfl rfl fun a E => ?_
  refine l_val E ok (y_nilCheck rfl) rfl rfl fun a E => ?_
  refine l_val E ok (y_fieldAddr fo_88_1 rfl) rfl rfl fun a E => ?_
  refine l_storeB E ok 0 rfl rfl rfl inf_3 rfl rfl ⟨rfl, trivial⟩ rfl rfl fun w ok => ?_
  refine wpList_nil ?_
  refine t_norm ?_
  refine wp_seq ?_
  refine c_region ?_
  refine l_val E ok (y_assign rfl) rfl rfl fun a E => ?_
  refine wpList_nil ?_
  refine t_norm ?_
  refine wp_ret ?_
  have hret : condition_parser_next_R u m0 S pb0 x0 (true, (Parser.mk r10.2.s (IntKind.wrap .i64 (r10.2.at_ + (t_1.length : Int))) r10.2.relations r10.2.e)) a w := ⟨ok, E.d, ⟨rv_t E rfl, trivial⟩, l13, (InR.wrap _ _), r15, r16⟩
  obtain rfl := Option.some.inj hF
  exact fin _ _ hret

def condition_parser_fail_R (u : World) (m0 : Mem) (S : Segs) (pb0 : Nat) (x0 : Parser) (r : Parser) (a : Act) (w : World) : Prop :=
  Ok u m0 ([(pb0, Obj.cells [(Value.string (bs r.s)), (Value.int .i64 r.at_), (Value.int .i64 r.relations), (Value.int .i64 r.e)].toArray 88 (0, 0))] :: S) w ∧ a.defers = [] ∧ RVs Tryz.prog a w [] ∧ r.s.length ≤ LIMS ∧ InR .i64 r.at_ ∧ InR .i64 r.relations ∧ InR .i64 r.e
set_option maxHeartbeats 4000000 in
set_option maxRecDepth 100000 in
theorem condition_parser_fail_w {u : World} {m0 : Mem} {S : Segs} {w : World} (N : Nat) (e_1 : Int) (re_1 : InR .i64 e_1) {pb0 : Nat} (x0 : Parser) (l1 : x0.s.length ≤ LIMS) (r2 : InR .i64 x0.at_) (r3 : InR .i64 x0.relations) (r4 : InR .i64 x0.e) {r : Parser} (hF : condition_parser_fail N e_1 x0 = some r) (hG : Glob u) (ok : Ok u m0 ([(pb0, Obj.cells [(Value.string (bs x0.s)), (Value.int .i64 x0.at_), (Value.int .i64 x0.relations), (Value.int .i64 x0.e)].toArray 88 (0, 0))] :: S) w) :
    Calls Tryz.prog 71 [Value.pointer (some ⟨pb0, 0, none⟩), Value.int .i64 e_1].toArray w fun e w' => (e = .returned (.tuple [].toArray) ∧ Ok u m0 ([(pb0, Obj.cells [(Value.string (bs r.s)), (Value.int .i64 r.at_), (Value.int .i64 r.relations), (Value.int .i64 r.e)].toArray 88 (0, 0))] :: S) w') ∧ r.s.length ≤ LIMS ∧ InR .i64 r.at_ ∧ InR .i64 r.relations ∧ InR .i64 r.e := by
  have hb0 := ok.base
  have le_m0 := Mem.le.refl m0
  unfold condition_parser_fail at hF
  have fin : ∀ a w, condition_parser_fail_R u m0 S pb0 x0 r a w → bodyPost Tryz.prog Tryz.f71 (fun e w' => (e = .returned (.tuple [].toArray) ∧ Ok u m0 ([(pb0, Obj.cells [(Value.string (bs r.s)), (Value.int .i64 r.at_), (Value.int .i64 r.relations), (Value.int .i64 r.e)].toArray 88 (0, 0))] :: S) w') ∧ r.s.length ≤ LIMS ∧ InR .i64 r.at_ ∧ InR .i64 r.relations ∧ InR .i64 r.e) .ret a w := by
    intro a w h
    obtain ⟨ok, hd, hrv, h0, h1, h2, h3⟩ := h
    exact c_ret2 [] hd rfl hrv ⟨⟨rfl, ok⟩, h0, h1, h2, h3⟩
  refine enter Tryz.func71 rfl rfl rfl fun a E => ?_
  refine wp_seq ?_
  refine c_region ?_
  refine l_val E ok (y_move rfl) rfl rfl fun a E => ?_
  refine l_val E ok (y_nilCheck rfl) rfl rfl fun a E => ?_
  refine l_val E ok (y_fieldAddr fo_88_3 rfl) rfl rfl fun a E => ?_
  refine l_val E ok (y_load one_25 rfl (Holds.own 0 rfl rfl)) rfl rfl fun a E => ?_
  refine l_val E ok (y_eql rfl rfl) rfl rfl fun a E => ?_
  refine wpList_nil ?_
  refine t_norm ?_
  refine c_if E rfl (fun hc9 => ?_) (fun hc9 => ?_)
  rotate_left
  · replace hF := cond_f hc9 hF
    refine wp_skip ?_
    have hret : condition_parser_fail_R u m0 S pb0 x0 x0 a w := ⟨ok, E.d, trivial, l1, r2, r3, r4⟩
    obtain rfl := Option.some.inj hF
    exact fin _ _ hret
  replace hF := cond_t hc9 hF
  refine c_region ?_
  refine l_val E ok (y_move rfl) rfl rfl fun a E => ?_
  refine l_val E ok (y_move rfl) rfl rfl fun a E => ?_
  refine l_val E ok (y_nilCheck rfl) rfl rfl fun a E => ?_
  refine l_val E ok (y_fieldAddr fo_88_3 rfl) rfl rfl fun a E => ?_
  refine l_storeB E ok 0 rfl rfl rfl inf_25 rfl rfl ⟨rfl, trivial⟩ rfl rfl fun w ok => ?_
  refine wpList_nil ?_
  have hret : condition_parser_fail_R u m0 S pb0 x0 (Parser.mk x0.s x0.at_ x0.relations e_1) a w := ⟨ok, E.d, trivial, l1, r2, r3, re_1⟩
  obtain rfl := Option.some.inj hF
  exact fin _ _ hret

theorem strings_Index_w {u : World} {m0 : Mem} {S : Segs} {w : World} (N : Nat) (p0_0 : List UInt8) (lp0_0 : p0_0.length ≤ LIMS) (p1_1 : List UInt8) (lp1_1 : p1_1.length ≤ LIMS) {r : Int} (hF : strings_Index N p0_0 p1_1 = some r) (hG : Glob u) (ok : Ok u m0 S w) :
    Calls Tryz.prog 95 [Value.string (bs p0_0), Value.string (bs p1_1)].toArray w fun e w' => (e = .returned (.int .i64 r) ∧ Ok u m0 S w') ∧ InR .i64 r := by
  obtain ⟨mx, hmx⟩ := hG
  exact lib_Index Tryz.lays143 hmx p0_0 p1_1 hF ok

def condition_parser_take_R (u : World) (m0 : Mem) (S : Segs) (pb0 : Nat) (x0 : Parser) (r : (List UInt8) × Parser) (a : Act) (w : World) : Prop :=
  Ok u m0 ([(pb0, Obj.cells [(Value.string (bs r.2.s)), (Value.int .i64 r.2.at_), (Value.int .i64 r.2.relations), (Value.int .i64 r.2.e)].toArray 88 (0, 0))] :: S) w ∧ a.defers = [] ∧ RVs Tryz.prog a w [.t 4 (.string (bs r.1))] ∧ r.1.length ≤ LIMS ∧ r.2.s.length ≤ LIMS ∧ InR .i64 r.2.at_ ∧ InR .i64 r.2.relations ∧ InR .i64 r.2.e
set_option maxHeartbeats 4000000 in
set_option maxRecDepth 100000 in
theorem condition_parser_take_w {u : World} {m0 : Mem} {S : Segs} {w : World} (N : Nat) (vl_1 : Value) (l_1 : List (List UInt8)) (hl_1 : (pL 1 pS) m0 [vl_1] l_1) {pb0 : Nat} (x0 : Parser) (l1 : x0.s.length ≤ LIMS) (r2 : InR .i64 x0.at_) (r3 : InR .i64 x0.relations) (r4 : InR .i64 x0.e) {r : (List UInt8) × Parser} (hF : condition_parser_take N l_1 x0 = some r) (hG : Glob u) (ok : Ok u m0 ([(pb0, Obj.cells [(Value.string (bs x0.s)), (Value.int .i64 x0.at_), (Value.int .i64 x0.relations), (Value.int .i64 x0.e)].toArray 88 (0, 0))] :: S) w) :
    Calls Tryz.prog 96 [Value.pointer (some ⟨pb0, 0, none⟩), vl_1].toArray w fun e w' => (e = .returned (.string (bs r.1)) ∧ Ok u m0 ([(pb0, Obj.cells [(Value.string (bs r.2.s)), (Value.int .i64 r.2.at_), (Value.int .i64 r.2.relations), (Value.int .i64 r.2.e)].toArray 88 (0, 0))] :: S) w') ∧ r.1.length ≤ LIMS ∧ r.2.s.length ≤ LIMS ∧ InR .i64 r.2.at_ ∧ InR .i64 r.2.relations ∧ InR .i64 r.2.e := by
  have hb0 := ok.base
  have le_m0 := Mem.le.refl m0
  unfold condition_parser_take at hF
  have fin : ∀ a w, condition_parser_take_R u m0 S pb0 x0 r a w → bodyPost Tryz.prog Tryz.f96 (fun e w' => (e = .returned (.string (bs r.1)) ∧ Ok u m0 ([(pb0, Obj.cells [(Value.string (bs r.2.s)), (Value.int .i64 r.2.at_), (Value.int .i64 r.2.relations), (Value.int .i64 r.2.e)].toArray 88 (0, 0))] :: S) w') ∧ r.1.length ≤ LIMS ∧ r.2.s.length ≤ LIMS ∧ InR .i64 r.2.at_ ∧ InR .i64 r.2.relations ∧ InR .i64 r.2.e) .ret a w := by
    intro a w h
    obtain ⟨ok, hd, hrv, h0, h1, h2, h3, h4⟩ := h
    exact c_ret2 [.t 4 (.string (bs r.1))] hd rfl hrv ⟨⟨rfl, ok⟩, h0, h1, h2, h3, h4⟩
  refine enter Tryz.func96 rfl rfl rfl fun a E => ?_
  refine wp_seq ?_
  refine c_region ?_
  refine l_val E ok (y_assign rfl) rfl rfl fun a E => ?_
  refine wpList_nil ?_
  refine t_norm ?_
  refine wp_seq ?_
  refine c_region ?_
  refine l_val E ok (y_move rfl) rfl rfl fun a E => ?_
  obtain ⟨r9, e10, hF⟩ := bnd hF
  refine l_call E go_94 rfl (condition_parser_peek_w N x0 l1 r2 r3 r4 e10 hG ok) rfl rfl ?_
  rintro _ w ⟨⟨rfl, ok⟩, l11, l12, r13, r14, r15⟩
  refine ⟨_, rfl, fun a E => ?_⟩
  refine l_val E ok (y_assign rfl) rfl rfl fun a E => ?_
  refine wpList_nil ?_
  refine t_norm ?_
  refine wp_seq ?_
  refine wp_seq ?_
  refine c_region ?_
  refine l_val E ok (y_move rfl) rfl rfl fun a E => ?_
  refine l_val E ok (y_nilCheck rfl) rfl rfl fun a E => ?_
  refine l_val E ok (y_fieldAddr fo_88_3 rfl) rfl rfl fun a E => ?_
  refine l_val E ok (y_load one_25 rfl (Holds.own 0 rfl rfl)) rfl rfl fun a E => ?_
  refine l_val E ok (y_eql rfl rfl) rfl rfl fun a E => ?_
  refine l_val E ok (y_move rfl) rfl rfl fun a E => ?_
  refine bsplit (r9.2.e == 0) (fun hc16 => ?_) (fun hc16 => ?_)
  rotate_left
  · replace hF := cond_f hc16 hF
    replace E := E.upd 13 hc16 rfl
    refine l_skip E rfl rfl fun a E => ?_
    refine l_skip E rfl rfl fun a E => ?_
    refine l_skip E rfl rfl fun a E => ?_
    refine l_skip E rfl rfl fun a E => ?_
    refine l_val E ok (y_pickF rfl rfl) rfl rfl fun a E => ?_
    refine wpList_nil ?_
    refine t_norm ?_
    refine c_if E rfl (fun h => by cases h) (fun _ => ?_)
    refine wp_skip ?_
    refine t_norm ?_
    refine wp_seq ?_
    refine wp_seq ?_
    refine c_region ?_
    refine l_val E ok (y_move rfl) rfl rfl fun a E => ?_
    refine l_val E ok (y_nilCheck rfl) rfl rfl fun a E => ?_
    refine l_val E ok (y_fieldAddr fo_88_3 rfl) rfl rfl fun a E => ?_
    refine l_val E ok (y_load one_25 rfl (Holds.own 0 rfl rfl)) rfl rfl fun a E => ?_
    refine l_val E ok (y_neq rfl rfl) rfl rfl fun a E => ?_
    refine wpList_nil ?_
    refine t_norm ?_
    refine c_if E rfl (fun hc36 => ?_) (fun hc36 => ?_)
    · replace hF := cond_t hc36 hF
      refine wp_seq ?_
      refine c_region ?_
      refine l_val E ok (y_assign rfl) rfl rfl fun a E => ?_
      refine wpList_nil ?_
      refine t_norm ?_
      refine wp_ret ?_
      refine t_ret ?_
      have hret : condition_parser_take_R u m0 S pb0 x0 ([], r9.2) a w := ⟨ok, E.d, ⟨rv_t E rfl, trivial⟩, (show ([] : List UInt8).length ≤ LIMS by decide), l12, r13, r14, r15⟩
      obtain rfl := Option.some.inj hF
      exact fin _ _ hret
    replace hF := cond_f hc36 hF
    refine wp_skip ?_
    refine t_norm ?_
    refine wp_seq ?_
    refine c_region ?_
    refine l_val E ok (y_move rfl) rfl rfl fun a E => ?_
    refine l_val E ok (y_nilCheck rfl) rfl rfl fun a E => ?_
    refine l_val E ok (y_fieldAddr fo_88_1 rfl) rfl rfl fun a E => ?_
    refine l_val E ok (y_load one_3 rfl (Holds.own 0 rfl rfl)) rfl rfl fun a E => ?_
    refine l_val E ok (y_move rfl) rfl rfl fun a E => ?_
    refine l_val E ok (y_slen Tryz.underlying9 rfl) rfl rfl fun a E => ?_
    refine l_val E ok (y_addw rfl rfl) rfl rfl fun a E => ?_
    refine l_val E ok (y_nilCheck rfl) rfl rfl fun a E => ?_
    refine l_val E ok (y_fieldAddr fo_88_1 rfl) rfl rfl fun a E => ?_
    refine l_storeB E ok 0 rfl rfl rfl inf_3 rfl rfl ⟨rfl, trivial⟩ rfl rfl fun w ok => ?_
    refine wpList_nil ?_
    refine t_norm ?_
    refine wp_seq ?_
    refine c_region ?_
    refine l_val E ok (y_move rfl) rfl rfl fun a E => ?_
    refine l_val E ok (y_assign rfl) rfl rfl fun a E => ?_
    refine wpList_nil ?_
    refine t_norm ?_
    refine wp_ret ?_
    have hret : condition_parser_take_R u m0 S pb0 x0 (r9.1, (Parser.mk r9.2.s (IntKind.wrap .i64 (r9.2.at_ + (r9.1.length : Int))) r9.2.relations r9.2.e)) a w := ⟨ok, E.d, ⟨rv_t E rfl, trivial⟩, l11, l12, (InR.wrap _ _), r14, r15⟩
    obtain rfl := Option.some.inj hF
    exact fin _ _ hret
  replace hF := cond_t hc16 hF
  replace E := E.upd 13 hc16 rfl
  refine l_val E ok (y_move rfl) rfl rfl fun a E => ?_
  refine l_val E ok (y_move rfl) rfl rfl fun a E => ?_
  obtain ⟨r17, e18, hF⟩ := bnd hF
  refine l_call E go_56 rfl (slices_Contains_string_string_w N _ l_1 hl_1 r9.1 l11 e18 hG ok) rfl rfl ?_
  rintro _ w ⟨rfl, ok⟩
  refine ⟨_, rfl, fun a E => ?_⟩
  refine l_val E ok (y_not rfl) rfl rfl fun a E => ?_
  refine l_val E ok (y_pickT rfl rfl) rfl rfl fun a E => ?_
  refine wpList_nil ?_
  refine t_norm ?_
  obtain ⟨o19, hJ, hF⟩ := bnd hF
  refine c_mono (Q' := fun e a w => e = .normal ∧ Ok u m0 ([(pb0, Obj.cells [(Value.string (bs o19.s)), (Value.int .i64 o19.at_), (Value.int .i64 o19.relations), (Value.int .i64 o19.e)].toArray 88 (0, 0))] :: S) w ∧ Env 36 a [(0, (Value.pointer (some ⟨pb0, 0, none⟩))), (5, (Value.string (bs r9.1)))] ∧ o19.s.length ≤ LIMS ∧ InR .i64 o19.at_ ∧ InR .i64 o19.relations ∧ InR .i64 o19.e) ?_ ?_
  · replace hF := hJ
    clear hJ
    refine c_if E rfl (fun hc24 => ?_) (fun hc24 => ?_)
    rotate_left
    · replace hF := cond_f hc24 hF
      refine wp_skip ?_
      obtain rfl := Option.some.inj hF
      exact ⟨rfl, ⟨ok, E.keep [0, 5], l12, r13, r14, r15⟩⟩
    replace hF := cond_t hc24 hF
    refine c_region ?_
    refine l_val E ok (y_move rfl) rfl rfl fun a E => ?_
    obtain ⟨r25, e26, hF⟩ := bnd hF
    refine l_call E go_71 rfl (condition_parser_fail_w N 3 (show InR .i64 (3) by decide) r9.2 l12 r13 r14 r15 e26 hG ok) rfl rfl ?_
    rintro _ w ⟨⟨rfl, ok⟩, l27, r28, r29, r30⟩
    refine ⟨_, rfl, fun a E => ?_⟩
    refine wpList_nil ?_
    obtain rfl := Option.some.inj hF
    exact ⟨rfl, ⟨ok, E.keep [0, 5], l27, r28, r29, r30⟩⟩
  clear hJ
  intro e a w hO
  obtain ⟨rfl, ok, E, l31, r32, r33, r34⟩ := hO
  refine t_norm ?_
  refine wp_seq ?_
  refine wp_seq ?_
  refine c_region ?_
  refine l_val E ok (y_move rfl) rfl rfl fun a E => ?_
  refine l_val E ok (y_nilCheck rfl) rfl rfl fun a E => ?_
  refine l_val E ok (y_fieldAddr fo_88_3 rfl) rfl rfl fun a E => ?_
  refine l_val E ok (y_load one_25 rfl (Holds.own 0 rfl rfl)) rfl rfl fun a E => ?_
  refine l_val E ok (y_neq rfl rfl) rfl rfl fun a E => ?_
  refine wpList_nil ?_
  refine t_norm ?_
  refine c_if E rfl (fun hc35 => ?_) (fun hc35 => ?_)
  · replace hF := cond_t hc35 hF
    refine wp_seq ?_
    refine c_region ?_
    refine l_val E ok (y_assign rfl) rfl rfl fun a E => ?_
    refine wpList_nil ?_
    refine t_norm ?_
    refine wp_ret ?_
    refine t_ret ?_
    have hret : condition_parser_take_R u m0 S pb0 x0 ([], o19) a w := ⟨ok, E.d, ⟨rv_t E rfl, trivial⟩, (show ([] : List UInt8).length ≤ LIMS by decide), l31, r32, r33, r34⟩
    obtain rfl := Option.some.inj hF
    exact fin _ _ hret
  replace hF := cond_f hc35 hF
  refine wp_skip ?_
  refine t_norm ?_
  refine wp_seq ?_
  refine c_region ?_
  refine l_val E ok (y_move rfl) rfl rfl fun a E => ?_
  refine l_val E ok (y_nilCheck rfl) rfl rfl fun a E => ?_
  refine l_val E ok (y_fieldAddr fo_88_1 rfl) rfl rfl fun a E => ?_
  refine l_val E ok (y_load one_3 rfl (Holds.own 0 rfl rfl)) rfl rfl fun a E => ?_
  refine l_val E ok (y_move rfl) rfl rfl fun a E => ?_
  refine l_val E ok (y_slen Tryz.underlying9 rfl) rfl rfl fun a E => ?_
  refine l_val E ok (y_addw rfl rfl) rfl rfl fun a E => ?_
  refine l_val E ok (y_nilCheck rfl) rfl rfl fun a E => ?_
  refine l_val E ok (y_fieldAddr fo_88_1 rfl) rfl rfl fun a E => ?_
  refine l_storeB E ok 0 rfl rfl rfl inf_3 rfl rfl ⟨rfl, trivial⟩ rfl rfl fun w ok => ?_
  refine wpList_nil ?_
  refine t_norm ?_
  refine wp_seq ?_
  refine c_region ?_
  refine l_val E ok (y_move rfl) rfl rfl fun a E => ?_
  refine l_val E ok (y_assign rfl) rfl rfl fun a E => ?_
  refine wpList_nil ?_
  refine t_norm ?_
  refine wp_ret ?_
  have hret : condition_parser_take_R u m0 S pb0 x0 (r9.1, (Parser.mk o19.s (IntKind.wrap .i64 (o19.at_ + (r9.1.length : Int))) o19.relations o19.e)) a w := ⟨ok, E.d, ⟨rv_t E rfl, trivial⟩, l11, l31, (InR.wrap _ _), r33, r34⟩
  obtain rfl := Option.some.inj hF
  exact fin _ _ hret

def condition_parser_relation_1_R (u : World) (m0 : Mem) (S : Segs) (pb0 : Nat) (x0 : Int) (r : Int) (a : Act) (w : World) : Prop :=
  Ok u m0 ([(pb0, Obj.cells [(Value.int .i64 x0)].toArray 3 (0, 0))] :: S) w ∧ a.defers = [] ∧ RVs Tryz.prog a w [.t 3 (.int .i64 r)] ∧ InR .i64 r
set_option maxHeartbeats 4000000 in
set_option maxRecDepth 100000 in
theorem condition_parser_relation_1_w {u : World} {m0 : Mem} {S : Segs} {w : World} (N : Nat) (n_0 : Int) (rn_0 : InR .i64 n_0) {pb0 : Nat} (x0 : Int) (r1 : InR .i64 x0) {r : Int} (hF : condition_parser_relation_1 N n_0 x0 = some r) (hG : Glob u) (ok : Ok u m0 ([(pb0, Obj.cells [(Value.int .i64 x0)].toArray 3 (0, 0))] :: S) w) :
    Calls Tryz.prog 98 [Value.int .i64 n_0, Value.pointer (some ⟨pb0, 0, none⟩)].toArray w fun e w' => (e = .returned (.int .i64 r) ∧ Ok u m0 ([(pb0, Obj.cells [(Value.int .i64 x0)].toArray 3 (0, 0))] :: S) w') ∧ InR .i64 r := by
  have hb0 := ok.base
  have le_m0 := Mem.le.refl m0
  unfold condition_parser_relation_1 at hF
  have fin : ∀ a w, condition_parser_relation_1_R u m0 S pb0 x0 r a w → bodyPost Tryz.prog Tryz.f98 (fun e w' => (e = .returned (.int .i64 r) ∧ Ok u m0 ([(pb0, Obj.cells [(Value.int .i64 x0)].toArray 3 (0, 0))] :: S) w') ∧ InR .i64 r) .ret a w := by
    intro a w h
    obtain ⟨ok, hd, hrv, h0⟩ := h
    exact c_ret2 [.t 3 (.int .i64 r)] hd rfl hrv ⟨⟨rfl, ok⟩, h0⟩
  refine enter Tryz.func98 rfl rfl rfl fun a E => ?_
  refine wp_seq ?_
  refine c_region ?_
  refine l_val E ok (y_assign rfl) rfl rfl fun a E => ?_
  refine wpList_nil ?_
  refine t_norm ?_
  refine wp_seq ?_
  refine wp_seq ?_
  refine c_region ?_
  refine l_val E ok (y_load one_3 rfl (Holds.own 0 rfl rfl)) rfl rfl fun a E => ?_
  refine l_val E ok (y_move rfl) rfl rfl fun a E => ?_
  obtain ⟨r2, e3, hF⟩ := bnd hF
  refine l_call E go_80 rfl (condition_permitted_w N x0 r1 n_0 rn_0 e3 hG ok) rfl rfl ?_
  rintro _ w ⟨rfl, ok⟩
  refine ⟨_, rfl, fun a E => ?_⟩
  refine l_val E ok (y_not rfl) rfl rfl fun a E => ?_
  refine wpList_nil ?_
  refine t_norm ?_
  refine c_if E rfl (fun hc4 => ?_) (fun hc4 => ?_)
  · replace hF := cond_t hc4 hF
    refine wp_seq ?_
    refine c_region ?_
    refine l_val E ok (y_assign rfl) rfl rfl fun a E => ?_
    refine wpList_nil ?_
    refine t_norm ?_
    refine wp_ret ?_
    refine t_ret ?_
    have hret : condition_parser_relation_1_R u m0 S pb0 x0 2 a w := ⟨ok, E.d, ⟨rv_t E rfl, trivial⟩, (show InR .i64 (2) by decide)⟩
    obtain rfl := Option.some.inj hF
    exact fin _ _ hret
  replace hF := cond_f hc4 hF
  refine wp_skip ?_
  refine t_norm ?_
  refine wp_seq ?_
  refine c_region ?_
  refine l_val E ok (y_assign rfl) rfl rfl fun a E => ?_
  refine wpList_nil ?_
  refine t_norm ?_
  refine wp_ret ?_
  have hret : condition_parser_relation_1_R u m0 S pb0 x0 0 a w := ⟨ok, E.d, ⟨rv_t E rfl, trivial⟩, (show InR .i64 (0) by decide)⟩
  obtain rfl := Option.some.inj hF
  exact fin _ _ hret

def condition_parser_number__98_R (u : World) (m0 : Mem) (S : Segs) (pb0 : Nat) (pb1 : Nat) (x0 : Parser) (x1 : Int) (r : Int × Parser) (a : Act) (w : World) : Prop :=
  Ok u m0 ([(pb0, Obj.cells [(Value.string (bs r.2.s)), (Value.int .i64 r.2.at_), (Value.int .i64 r.2.relations), (Value.int .i64 r.2.e)].toArray 88 (0, 0))] :: [(pb1, Obj.cells [(Value.int .i64 x1)].toArray 3 (0, 0))] :: S) w ∧ a.defers = [] ∧ RVs Tryz.prog a w [.t 4 (.int .i64 r.1)] ∧ InR .i64 r.1 ∧ r.2.s.length ≤ LIMS ∧ InR .i64 r.2.at_ ∧ InR .i64 r.2.relations ∧ InR .i64 r.2.e
set_option maxHeartbeats 4000000 in
set_option maxRecDepth 100000 in
theorem condition_parser_number__98_w {u : World} {m0 : Mem} {S : Segs} {w : World} (N : Nat) {pb0 : Nat} (x0 : Parser) (l1 : x0.s.length ≤ LIMS) (r2 : InR .i64 x0.at_) (r3 : InR .i64 x0.relations) (r4 : InR .i64 x0.e) {pb1 : Nat} (x1 : Int) (r5 : InR .i64 x1) {r : Int × Parser} (hF : condition_parser_number__98 N x0 x1 = some r) (hG : Glob u) (ok : Ok u m0 ([(pb0, Obj.cells [(Value.string (bs x0.s)), (Value.int .i64 x0.at_), (Value.int .i64 x0.relations), (Value.int .i64 x0.e)].toArray 88 (0, 0))] :: [(pb1, Obj.cells [(Value.int .i64 x1)].toArray 3 (0, 0))] :: S) w) :
    Calls Tryz.prog 97 [Value.pointer (some ⟨pb0, 0, none⟩), Value.func (.func 98) #[] #[.pointer (some ⟨pb1, 0, none⟩)]].toArray w fun e w' => (e = .returned (.int .i64 r.1) ∧ Ok u m0 ([(pb0, Obj.cells [(Value.string (bs r.2.s)), (Value.int .i64 r.2.at_), (Value.int .i64 r.2.relations), (Value.int .i64 r.2.e)].toArray 88 (0, 0))] :: [(pb1, Obj.cells [(Value.int .i64 x1)].toArray 3 (0, 0))] :: S) w') ∧ InR .i64 r.1 ∧ r.2.s.length ≤ LIMS ∧ InR .i64 r.2.at_ ∧ InR .i64 r.2.relations ∧ InR .i64 r.2.e := by
  have hb0 := ok.base
  have le_m0 := Mem.le.refl m0
  unfold condition_parser_number__98 at hF
  have fin : ∀ a w, condition_parser_number__98_R u m0 S pb0 pb1 x0 x1 r a w → bodyPost Tryz.prog Tryz.f97 (fun e w' => (e = .returned (.int .i64 r.1) ∧ Ok u m0 ([(pb0, Obj.cells [(Value.string (bs r.2.s)), (Value.int .i64 r.2.at_), (Value.int .i64 r.2.relations), (Value.int .i64 r.2.e)].toArray 88 (0, 0))] :: [(pb1, Obj.cells [(Value.int .i64 x1)].toArray 3 (0, 0))] :: S) w') ∧ InR .i64 r.1 ∧ r.2.s.length ≤ LIMS ∧ InR .i64 r.2.at_ ∧ InR .i64 r.2.relations ∧ InR .i64 r.2.e) .ret a w := by
    intro a w h
    obtain ⟨ok, hd, hrv, h0, h1, h2, h3, h4⟩ := h
    exact c_ret2 [.t 4 (.int .i64 r.1)] hd rfl hrv ⟨⟨rfl, ok⟩, h0, h1, h2, h3, h4⟩
  refine enter Tryz.func97 rfl rfl rfl fun a E => ?_
  refine wp_seq ?_
  refine c_region ?_
  refine l_val E ok (y_assign rfl) rfl rfl fun a E => ?_
  refine wpList_nil ?_
  refine t_norm ?_
  refine wp_seq ?_
  refine c_region ?_
  refine l_val E ok (y_move rfl) rfl rfl fun a E => ?_
  obtain ⟨r10, e11, hF⟩ := bnd hF
  refine l_call E go_94 rfl (condition_parser_peek_w N x0 l1 r2 r3 r4 e11 hG ok) rfl rfl ?_
  rintro _ w ⟨⟨rfl, ok⟩, l12, l13, r14, r15, r16⟩
  refine ⟨_, rfl, fun a E => ?_⟩
  refine l_val E ok (y_assign rfl) rfl rfl fun a E => ?_
  refine wpList_nil ?_
  refine t_norm ?_
  refine wp_seq ?_
  refine wp_seq ?_
  refine c_region ?_
  refine l_val E ok (y_move rfl) rfl rfl fun a E => ?_
  refine l_val E ok (y_seql rfl rfl) rfl rfl fun a E => ?_
  refine l_val E ok (y_move rfl) rfl rfl fun a E => ?_
  refine bsplit (r10.1 == ([])) (fun hc17 => ?_) (fun hc17 => ?_)
  · as_aux_lemma =>
      replace hF := cond_t hc17 hF
      replace E := E.upd 13 hc17 rfl
      refine l_skip E rfl rfl fun a E => ?_
      refine l_skip E rfl rfl fun a E => ?_
      refine l_skip E rfl rfl fun a E => ?_
      refine l_skip E rfl rfl fun a E => ?_
      refine l_val E ok (y_pickT rfl rfl) rfl rfl fun a E => ?_
      refine l_val E ok (y_move rfl) rfl rfl fun a E => ?_
      refine l_skip E rfl rfl fun a E => ?_
      refine l_skip E rfl rfl fun a E => ?_
      refine l_skip E rfl rfl fun a E => ?_
      refine l_val E ok (y_pickT rfl rfl) rfl rfl fun a E => ?_
      refine l_val E ok (y_move rfl) rfl rfl fun a E => ?_
      refine l_skip E rfl rfl fun a E => ?_
      refine l_skip E rfl rfl fun a E => ?_
      refine l_skip E rfl rfl fun a E => ?_
      refine l_skip E rfl rfl fun a E => ?_
      refine l_skip E rfl rfl fun a E => ?_
      refine l_skip E rfl rfl fun a E => ?_
      refine l_skip E rfl rfl fun a E => ?_
      refine l_skip E rfl rfl fun a E => ?_
      refine l_val E ok (y_pickT rfl rfl) rfl rfl fun a E => ?_
      refine wpList_nil ?_
      refine t_norm ?_
      refine c_if E rfl (fun _ => ?_) (fun h => by cases h)
      refine c_region ?_
      refine l_val E ok (y_move rfl) rfl rfl fun a E => ?_
      obtain ⟨r18, e19, hF⟩ := bnd hF
      refine l_call E go_71 rfl (condition_parser_fail_w N 3 (show InR .i64 (3) by decide) r10.2 l13 r14 r15 r16 e19 hG ok) rfl rfl ?_
      rintro _ w ⟨⟨rfl, ok⟩, l20, r21, r22, r23⟩
      refine ⟨_, rfl, fun a E => ?_⟩
      refine wpList_nil ?_
      refine t_norm ?_
      refine wp_seq ?_
      refine wp_seq ?_
      refine c_region ?_
      refine l_val E ok (y_move rfl) rfl rfl fun a E => ?_
      refine l_val E ok (y_nilCheck rfl) rfl rfl fun a E => ?_
      refine l_val E ok (y_fieldAddr fo_88_3 rfl) rfl rfl fun a E => ?_
      refine l_val E ok (y_load one_25 rfl (Holds.own 0 rfl rfl)) rfl rfl fun a E => ?_
      refine l_val E ok (y_neq rfl rfl) rfl rfl fun a E => ?_
      refine wpList_nil ?_
      refine t_norm ?_
      refine c_if E rfl (fun hc24 => ?_) (fun hc24 => ?_)
      · replace hF := cond_t hc24 hF
        refine wp_seq ?_
        refine c_region ?_
        refine l_val E ok (y_assign rfl) rfl rfl fun a E => ?_
        refine wpList_nil ?_
        refine t_norm ?_
        refine wp_ret ?_
        refine t_ret ?_
        have hret : condition_parser_number__98_R u m0 S pb0 pb1 x0 x1 (0, r18) a w := ⟨ok, E.d, ⟨rv_t E rfl, trivial⟩, (show InR .i64 (0) by decide), l20, r21, r22, r23⟩
        obtain rfl := Option.some.inj hF
        exact fin _ _ hret
      replace hF := cond_f hc24 hF
      refine wp_skip ?_
      refine t_norm ?_
      refine wp_seq ?_
      refine c_region ?_
      refine l_val E ok (y_move rfl) rfl rfl fun a E => ?_
      obtain ⟨r25, e26, hF⟩ := bnd hF
      refine l_call E go_127 rfl (strconv_Atoi_w N r10.1 l12 e26 hG ok) rfl rfl ?_
      rintro _ w ⟨⟨rfl, ok⟩, r27⟩
      refine ⟨_, rfl, fun a E => ?_⟩
      refine l_val E ok (y_move rfl) rfl rfl fun a E => ?_
      refine l_val E ok (y_extract rfl rfl) rfl rfl fun a E => ?_
      refine l_val E ok (y_extract rfl rfl) rfl rfl fun a E => ?_
      refine l_val E ok (y_assign rfl) rfl rfl fun a E => ?_
      refine l_val E ok (y_assign rfl) rfl rfl fun a E => ?_
      refine wpList_nil ?_
      refine t_norm ?_
      refine wp_seq ?_
      refine wp_seq ?_
      refine c_region ?_
      refine l_val E ok (y_move rfl) rfl rfl fun a E => ?_
      refine l_val E ok (y_move rfl) rfl rfl fun a E => ?_
      obtain ⟨r28, e29, hF⟩ := bnd hF
      replace ok : Ok u m0 ([(pb1, Obj.cells [(Value.int .i64 x1)].toArray 3 (0, 0))] :: [(pb0, Obj.cells [(Value.string (bs r18.s)), (Value.int .i64 r18.at_), (Value.int .i64 r18.relations), (Value.int .i64 r18.e)].toArray 88 (0, 0))] :: S) w := (ok.pk 2 [1, 0] rfl (by decide))
      refine l_callc E rfl go_98 rfl (condition_parser_relation_1_w N r25.1 r27 x1 r5 e29 hG ok) rfl rfl ?_
      rintro _ w ⟨⟨rfl, ok⟩, r30⟩
      refine ⟨_, rfl, fun a E => ?_⟩
      refine l_val E ok (y_assign rfl) rfl rfl fun a E => ?_
      refine wpList_nil ?_
      refine t_norm ?_
      refine wp_seq ?_
      refine c_region ?_
      refine l_val E ok (y_move rfl) rfl rfl fun a E => ?_
      refine l_val E ok (y_neq rfl rfl) rfl rfl fun a E => ?_
      refine wpList_nil ?_
      refine t_norm ?_
      refine c_if E rfl (fun hc31 => ?_) (fun hc31 => ?_)
      · replace hF := cond_t hc31 hF
        refine wp_seq ?_
        refine c_region ?_
        refine l_val E ok (y_move rfl) rfl rfl fun a E => ?_
        refine l_val E ok (y_move rfl) rfl rfl fun a E => ?_
        obtain ⟨r32, e33, hF⟩ := bnd hF
        replace ok : Ok u m0 ([(pb0, Obj.cells [(Value.string (bs r18.s)), (Value.int .i64 r18.at_), (Value.int .i64 r18.relations), (Value.int .i64 r18.e)].toArray 88 (0, 0))] :: [(pb1, Obj.cells [(Value.int .i64 x1)].toArray 3 (0, 0))] :: S) w := (ok.pk 2 [1, 0] rfl (by decide))
        refine l_call E go_71 rfl (condition_parser_fail_w N r28 r30 r18 l20 r21 r22 r23 e33 hG ok) rfl rfl ?_
        rintro _ w ⟨⟨rfl, ok⟩, l34, r35, r36, r37⟩
        refine ⟨_, rfl, fun a E => ?_⟩
        refine wpList_nil ?_
        refine t_norm ?_
        refine wp_seq ?_
        refine c_region ?_
        refine l_val E ok (y_assign rfl) rfl rfl fun a E => ?_
        refine wpList_nil ?_
        refine t_norm ?_
        refine wp_ret ?_
        refine t_ret ?_
        have hret : condition_parser_number__98_R u m0 S pb0 pb1 x0 x1 (0, r32) a w := ⟨ok, E.d, ⟨rv_t E rfl, trivial⟩, (show InR .i64 (0) by decide), l34, r35, r36, r37⟩
        obtain rfl := Option.some.inj hF
        exact fin _ _ hret
      replace hF := cond_f hc31 hF
      refine wp_skip ?_
      refine t_norm ?_
      refine wp_seq ?_
      refine c_region ?_
      refine l_val E ok (y_move rfl) rfl rfl fun a E => ?_
      refine l_val E ok (y_nilCheck rfl) rfl rfl fun a E => ?_
      refine l_val E ok (y_fieldAddr fo_88_1 rfl) rfl rfl fun a E => ?_
      refine l_val E ok (y_load one_3 rfl (Holds.own 1 rfl rfl)) rfl rfl fun a E => ?_
      refine l_val E ok (y_move rfl) rfl rfl fun a E => ?_
      refine l_val E ok (y_slen Tryz.underlying9 rfl) rfl rfl fun a E => ?_
      refine l_val E ok (y_addw rfl rfl) rfl rfl fun a E => ?_
      refine l_val E ok (y_nilCheck rfl) rfl rfl fun a E => ?_
      refine l_val E ok (y_fieldAddr fo_88_1 rfl) rfl rfl fun a E => ?_
      refine l_storeB E ok 1 rfl rfl rfl inf_3 rfl rfl ⟨rfl, trivial⟩ rfl rfl fun w ok => ?_
      refine wpList_nil ?_
      refine t_norm ?_
      refine wp_seq ?_
      refine c_region ?_
      refine l_val E ok (y_move rfl) rfl rfl fun a E => ?_
      refine l_val E ok (y_assign rfl) rfl rfl fun a E => ?_
      refine wpList_nil ?_
      refine t_norm ?_
      refine wp_ret ?_
      have hret : condition_parser_number__98_R u m0 S pb0 pb1 x0 x1 (r25.1, (Parser.mk r18.s (IntKind.wrap .i64 (r18.at_ + (r10.1.length : Int))) r18.relations r18.e)) a w := ⟨(ok.pk 2 [1, 0] rfl (by decide)), E.d, ⟨rv_t E rfl, trivial⟩, r27, l20, (InR.wrap _ _), r22, r23⟩
      obtain rfl := Option.some.inj hF
      exact fin _ _ hret
  replace hF := cond_f hc17 hF
  replace E := E.upd 13 hc17 rfl
  refine l_val E ok (y_move rfl) rfl rfl fun a E => ?_
  obtain ⟨c38, e39, hF⟩ := bnd hF
  refine l_val E ok (y_index Tryz.underlying9 rfl rfl e39) rfl rfl fun a E => ?_
  obtain ⟨r40, e41, hF⟩ := bnd hF
  refine l_call E go_124 rfl (condition_digit_w N (c38.toNat : Int) (InR.byte c38) e41 hG ok) rfl rfl ?_
  rintro _ w ⟨rfl, ok⟩
  refine ⟨_, rfl, fun a E => ?_⟩
  refine l_val E ok (y_not rfl) rfl rfl fun a E => ?_
  refine l_val E ok (y_pickF rfl rfl) rfl rfl fun a E => ?_
  refine l_val E ok (y_move rfl) rfl rfl fun a E => ?_
  refine bsplit (!r40) (fun hc42 => ?_) (fun hc42 => ?_)
  · as_aux_lemma =>
      replace hF := cond_t hc42 hF
      replace E := E.upd 19 hc42 rfl
      refine l_skip E rfl rfl fun a E => ?_
      refine l_skip E rfl rfl fun a E => ?_
      refine l_skip E rfl rfl fun a E => ?_
      refine l_val E ok (y_pickT rfl rfl) rfl rfl fun a E => ?_
      refine l_val E ok (y_move rfl) rfl rfl fun a E => ?_
      refine l_skip E rfl rfl fun a E => ?_
      refine l_skip E rfl rfl fun a E => ?_
      refine l_skip E rfl rfl fun a E => ?_
      refine l_skip E rfl rfl fun a E => ?_
      refine l_skip E rfl rfl fun a E => ?_
      refine l_skip E rfl rfl fun a E => ?_
      refine l_skip E rfl rfl fun a E => ?_
      refine l_skip E rfl rfl fun a E => ?_
      refine l_val E ok (y_pickT rfl rfl) rfl rfl fun a E => ?_
      refine wpList_nil ?_
      refine t_norm ?_
      refine c_if E rfl (fun _ => ?_) (fun h => by cases h)
      refine c_region ?_
      refine l_val E ok (y_move rfl) rfl rfl fun a E => ?_
      obtain ⟨r43, e44, hF⟩ := bnd hF
      refine l_call E go_71 rfl (condition_parser_fail_w N 3 (show InR .i64 (3) by decide) r10.2 l13 r14 r15 r16 e44 hG ok) rfl rfl ?_
      rintro _ w ⟨⟨rfl, ok⟩, l45, r46, r47, r48⟩
      refine ⟨_, rfl, fun a E => ?_⟩
      refine wpList_nil ?_
      refine t_norm ?_
      refine wp_seq ?_
      refine wp_seq ?_
      refine c_region ?_
      refine l_val E ok (y_move rfl) rfl rfl fun a E => ?_
      refine l_val E ok (y_nilCheck rfl) rfl rfl fun a E => ?_
      refine l_val E ok (y_fieldAddr fo_88_3 rfl) rfl rfl fun a E => ?_
      refine l_val E ok (y_load one_25 rfl (Holds.own 0 rfl rfl)) rfl rfl fun a E => ?_
      refine l_val E ok (y_neq rfl rfl) rfl rfl fun a E => ?_
      refine wpList_nil ?_
      refine t_norm ?_
      refine c_if E rfl (fun hc49 => ?_) (fun hc49 => ?_)
      · replace hF := cond_t hc49 hF
        refine wp_seq ?_
        refine c_region ?_
        refine l_val E ok (y_assign rfl) rfl rfl fun a E => ?_
        refine wpList_nil ?_
        refine t_norm ?_
        refine wp_ret ?_
        refine t_ret ?_
        have hret : condition_parser_number__98_R u m0 S pb0 pb1 x0 x1 (0, r43) a w := ⟨ok, E.d, ⟨rv_t E rfl, trivial⟩, (show InR .i64 (0) by decide), l45, r46, r47, r48⟩
        obtain rfl := Option.some.inj hF
        exact fin _ _ hret
      replace hF := cond_f hc49 hF
      refine wp_skip ?_
      refine t_norm ?_
      refine wp_seq ?_
      refine c_region ?_
      refine l_val E ok (y_move rfl) rfl rfl fun a E => ?_
      obtain ⟨r50, e51, hF⟩ := bnd hF
      refine l_call E go_127 rfl (strconv_Atoi_w N r10.1 l12 e51 hG ok) rfl rfl ?_
      rintro _ w ⟨⟨rfl, ok⟩, r52⟩
      refine ⟨_, rfl, fun a E => ?_⟩
      refine l_val E ok (y_move rfl) rfl rfl fun a E => ?_
      refine l_val E ok (y_extract rfl rfl) rfl rfl fun a E => ?_
      refine l_val E ok (y_extract rfl rfl) rfl rfl fun a E => ?_
      refine l_val E ok (y_assign rfl) rfl rfl fun a E => ?_
      refine l_val E ok (y_assign rfl) rfl rfl fun a E => ?_
      refine wpList_nil ?_
      refine t_norm ?_
      refine wp_seq ?_
      refine wp_seq ?_
      refine c_region ?_
      refine l_val E ok (y_move rfl) rfl rfl fun a E => ?_
      refine l_val E ok (y_move rfl) rfl rfl fun a E => ?_
      obtain ⟨r53, e54, hF⟩ := bnd hF
      replace ok : Ok u m0 ([(pb1, Obj.cells [(Value.int .i64 x1)].toArray 3 (0, 0))] :: [(pb0, Obj.cells [(Value.string (bs r43.s)), (Value.int .i64 r43.at_), (Value.int .i64 r43.relations), (Value.int .i64 r43.e)].toArray 88 (0, 0))] :: S) w := (ok.pk 2 [1, 0] rfl (by decide))
      refine l_callc E rfl go_98 rfl (condition_parser_relation_1_w N r50.1 r52 x1 r5 e54 hG ok) rfl rfl ?_
      rintro _ w ⟨⟨rfl, ok⟩, r55⟩
      refine ⟨_, rfl, fun a E => ?_⟩
      refine l_val E ok (y_assign rfl) rfl rfl fun a E => ?_
      refine wpList_nil ?_
      refine t_norm ?_
      refine wp_seq ?_
      refine c_region ?_
      refine l_val E ok (y_move rfl) rfl rfl fun a E => ?_
      refine l_val E ok (y_neq rfl rfl) rfl rfl fun a E => ?_
      refine wpList_nil ?_
      refine t_norm ?_
      refine c_if E rfl (fun hc56 => ?_) (fun hc56 => ?_)
      · replace hF := cond_t hc56 hF
        refine wp_seq ?_
        refine c_region ?_
        refine l_val E ok (y_move rfl) rfl rfl fun a E => ?_
        refine l_val E ok (y_move rfl) rfl rfl fun a E => ?_
        obtain ⟨r57, e58, hF⟩ := bnd hF
        replace ok : Ok u m0 ([(pb0, Obj.cells [(Value.string (bs r43.s)), (Value.int .i64 r43.at_), (Value.int .i64 r43.relations), (Value.int .i64 r43.e)].toArray 88 (0, 0))] :: [(pb1, Obj.cells [(Value.int .i64 x1)].toArray 3 (0, 0))] :: S) w := (ok.pk 2 [1, 0] rfl (by decide))
        refine l_call E go_71 rfl (condition_parser_fail_w N r53 r55 r43 l45 r46 r47 r48 e58 hG ok) rfl rfl ?_
        rintro _ w ⟨⟨rfl, ok⟩, l59, r60, r61, r62⟩
        refine ⟨_, rfl, fun a E => ?_⟩
        refine wpList_nil ?_
        refine t_norm ?_
        refine wp_seq ?_
        refine c_region ?_
        refine l_val E ok (y_assign rfl) rfl rfl fun a E => ?_
        refine wpList_nil ?_
        refine t_norm ?_
        refine wp_ret ?_
        refine t_ret ?_
        have hret : condition_parser_number__98_R u m0 S pb0 pb1 x0 x1 (0, r57) a w := ⟨ok, E.d, ⟨rv_t E rfl, trivial⟩, (show InR .i64 (0) by decide), l59, r60, r61, r62⟩
        obtain rfl := Option.some.inj hF
        exact fin _ _ hret
      replace hF := cond_f hc56 hF
      refine wp_skip ?_
      refine t_norm ?_
      refine wp_seq ?_
      refine c_region ?_
      refine l_val E ok (y_move rfl) rfl rfl fun a E => ?_
      refine l_val E ok (y_nilCheck rfl) rfl rfl fun a E => ?_
      refine l_val E ok (y_fieldAddr fo_88_1 rfl) rfl rfl fun a E => ?_
      refine l_val E ok (y_load one_3 rfl (Holds.own 1 rfl rfl)) rfl rfl fun a E => ?_
      refine l_val E ok (y_move rfl) rfl rfl fun a E => ?_
      refine l_val E ok (y_slen Tryz.underlying9 rfl) rfl rfl fun a E => ?_
      refine l_val E ok (y_addw rfl rfl) rfl rfl fun a E => ?_
      refine l_val E ok (y_nilCheck rfl) rfl rfl fun a E => ?_
      refine l_val E ok (y_fieldAddr fo_88_1 rfl) rfl rfl fun a E => ?_
      refine l_storeB E ok 1 rfl rfl rfl inf_3 rfl rfl ⟨rfl, trivial⟩ rfl rfl fun w ok => ?_
      refine wpList_nil ?_
      refine t_norm ?_
      refine wp_seq ?_
      refine c_region ?_
      refine l_val E ok (y_move rfl) rfl rfl fun a E => ?_
      refine l_val E ok (y_assign rfl) rfl rfl fun a E => ?_
      refine wpList_nil ?_
      refine t_norm ?_
      refine wp_ret ?_
      have hret : condition_parser_number__98_R u m0 S pb0 pb1 x0 x1 (r50.1, (Parser.mk r43.s (IntKind.wrap .i64 (r43.at_ + (r10.1.length : Int))) r43.relations r43.e)) a w := ⟨(ok.pk 2 [1, 0] rfl (by decide)), E.d, ⟨rv_t E rfl, trivial⟩, r52, l45, (InR.wrap _ _), r47, r48⟩
      obtain rfl := Option.some.inj hF
      exact fin _ _ hret
  replace hF := cond_f hc42 hF
  replace E := E.upd 19 hc42 rfl
  refine l_val E ok (y_move rfl) rfl rfl fun a E => ?_
  refine l_val E ok (y_slen Tryz.underlying9 rfl) rfl rfl fun a E => ?_
  refine l_val E ok (y_gtr rfl rfl) rfl rfl fun a E => ?_
  refine l_val E ok (y_pickF rfl rfl) rfl rfl fun a E => ?_
  refine l_val E ok (y_move rfl) rfl rfl fun a E => ?_
  refine bsplit (decide ((r10.1.length : Int) > 3)) (fun hc63 => ?_) (fun hc63 => ?_)
  · as_aux_lemma =>
      replace hF := cond_t hc63 hF
      replace E := E.upd 24 hc63 rfl
      refine l_skip E rfl rfl fun a E => ?_
      refine l_skip E rfl rfl fun a E => ?_
      refine l_skip E rfl rfl fun a E => ?_
      refine l_skip E rfl rfl fun a E => ?_
      refine l_skip E rfl rfl fun a E => ?_
      refine l_skip E rfl rfl fun a E => ?_
      refine l_skip E rfl rfl fun a E => ?_
      refine l_skip E rfl rfl fun a E => ?_
      refine l_val E ok (y_pickT rfl rfl) rfl rfl fun a E => ?_
      refine wpList_nil ?_
      refine t_norm ?_
      refine c_if E rfl (fun _ => ?_) (fun h => by cases h)
      refine c_region ?_
      refine l_val E ok (y_move rfl) rfl rfl fun a E => ?_
      obtain ⟨r64, e65, hF⟩ := bnd hF
      refine l_call E go_71 rfl (condition_parser_fail_w N 3 (show InR .i64 (3) by decide) r10.2 l13 r14 r15 r16 e65 hG ok) rfl rfl ?_
      rintro _ w ⟨⟨rfl, ok⟩, l66, r67, r68, r69⟩
      refine ⟨_, rfl, fun a E => ?_⟩
      refine wpList_nil ?_
      refine t_norm ?_
      refine wp_seq ?_
      refine wp_seq ?_
      refine c_region ?_
      refine l_val E ok (y_move rfl) rfl rfl fun a E => ?_
      refine l_val E ok (y_nilCheck rfl) rfl rfl fun a E => ?_
      refine l_val E ok (y_fieldAddr fo_88_3 rfl) rfl rfl fun a E => ?_
      refine l_val E ok (y_load one_25 rfl (Holds.own 0 rfl rfl)) rfl rfl fun a E => ?_
      refine l_val E ok (y_neq rfl rfl) rfl rfl fun a E => ?_
      refine wpList_nil ?_
      refine t_norm ?_
      refine c_if E rfl (fun hc70 => ?_) (fun hc70 => ?_)
      · replace hF := cond_t hc70 hF
        refine wp_seq ?_
        refine c_region ?_
        refine l_val E ok (y_assign rfl) rfl rfl fun a E => ?_
        refine wpList_nil ?_
        refine t_norm ?_
        refine wp_ret ?_
        refine t_ret ?_
        have hret : condition_parser_number__98_R u m0 S pb0 pb1 x0 x1 (0, r64) a w := ⟨ok, E.d, ⟨rv_t E rfl, trivial⟩, (show InR .i64 (0) by decide), l66, r67, r68, r69⟩
        obtain rfl := Option.some.inj hF
        exact fin _ _ hret
      replace hF := cond_f hc70 hF
      refine wp_skip ?_
      refine t_norm ?_
      refine wp_seq ?_
      refine c_region ?_
      refine l_val E ok (y_move rfl) rfl rfl fun a E => ?_
      obtain ⟨r71, e72, hF⟩ := bnd hF
      refine l_call E go_127 rfl (strconv_Atoi_w N r10.1 l12 e72 hG ok) rfl rfl ?_
      rintro _ w ⟨⟨rfl, ok⟩, r73⟩
      refine ⟨_, rfl, fun a E => ?_⟩
      refine l_val E ok (y_move rfl) rfl rfl fun a E => ?_
      refine l_val E ok (y_extract rfl rfl) rfl rfl fun a E => ?_
      refine l_val E ok (y_extract rfl rfl) rfl rfl fun a E => ?_
      refine l_val E ok (y_assign rfl) rfl rfl fun a E => ?_
      refine l_val E ok (y_assign rfl) rfl rfl fun a E => ?_
      refine wpList_nil ?_
      refine t_norm ?_
      refine wp_seq ?_
      refine wp_seq ?_
      refine c_region ?_
      refine l_val E ok (y_move rfl) rfl rfl fun a E => ?_
      refine l_val E ok (y_move rfl) rfl rfl fun a E => ?_
      obtain ⟨r74, e75, hF⟩ := bnd hF
      replace ok : Ok u m0 ([(pb1, Obj.cells [(Value.int .i64 x1)].toArray 3 (0, 0))] :: [(pb0, Obj.cells [(Value.string (bs r64.s)), (Value.int .i64 r64.at_), (Value.int .i64 r64.relations), (Value.int .i64 r64.e)].toArray 88 (0, 0))] :: S) w := (ok.pk 2 [1, 0] rfl (by decide))
      refine l_callc E rfl go_98 rfl (condition_parser_relation_1_w N r71.1 r73 x1 r5 e75 hG ok) rfl rfl ?_
      rintro _ w ⟨⟨rfl, ok⟩, r76⟩
      refine ⟨_, rfl, fun a E => ?_⟩
      refine l_val E ok (y_assign rfl) rfl rfl fun a E => ?_
      refine wpList_nil ?_
      refine t_norm ?_
      refine wp_seq ?_
      refine c_region ?_
      refine l_val E ok (y_move rfl) rfl rfl fun a E => ?_
      refine l_val E ok (y_neq rfl rfl) rfl rfl fun a E => ?_
      refine wpList_nil ?_
      refine t_norm ?_
      refine c_if E rfl (fun hc77 => ?_) (fun hc77 => ?_)
      · replace hF := cond_t hc77 hF
        refine wp_seq ?_
        refine c_region ?_
        refine l_val E ok (y_move rfl) rfl rfl fun a E => ?_
        refine l_val E ok (y_move rfl) rfl rfl fun a E => ?_
        obtain ⟨r78, e79, hF⟩ := bnd hF
        replace ok : Ok u m0 ([(pb0, Obj.cells [(Value.string (bs r64.s)), (Value.int .i64 r64.at_), (Value.int .i64 r64.relations), (Value.int .i64 r64.e)].toArray 88 (0, 0))] :: [(pb1, Obj.cells [(Value.int .i64 x1)].toArray 3 (0, 0))] :: S) w := (ok.pk 2 [1, 0] rfl (by decide))
        refine l_call E go_71 rfl (condition_parser_fail_w N r74 r76 r64 l66 r67 r68 r69 e79 hG ok) rfl rfl ?_
        rintro _ w ⟨⟨rfl, ok⟩, l80, r81, r82, r83⟩
        refine ⟨_, rfl, fun a E => ?_⟩
        refine wpList_nil ?_
        refine t_norm ?_
        refine wp_seq ?_
        refine c_region ?_
        refine l_val E ok (y_assign rfl) rfl rfl fun a E => ?_
        refine wpList_nil ?_
        refine t_norm ?_
        refine wp_ret ?_
        refine t_ret ?_
        have hret : condition_parser_number__98_R u m0 S pb0 pb1 x0 x1 (0, r78) a w := ⟨ok, E.d, ⟨rv_t E rfl, trivial⟩, (show InR .i64 (0) by decide), l80, r81, r82, r83⟩
        obtain rfl := Option.some.inj hF
        exact fin _ _ hret
      replace hF := cond_f hc77 hF
      refine wp_skip ?_
      refine t_norm ?_
      refine wp_seq ?_
      refine c_region ?_
      refine l_val E ok (y_move rfl) rfl rfl fun a E => ?_
      refine l_val E ok (y_nilCheck rfl) rfl rfl fun a E => ?_
      refine l_val E ok (y_fieldAddr fo_88_1 rfl) rfl rfl fun a E => ?_
      refine l_val E ok (y_load one_3 rfl (Holds.own 1 rfl rfl)) rfl rfl fun a E => ?_
      refine l_val E ok (y_move rfl) rfl rfl fun a E => ?_
      refine l_val E ok (y_slen Tryz.underlying9 rfl) rfl rfl fun a E => ?_
      refine l_val E ok (y_addw rfl rfl) rfl rfl fun a E => ?_
      refine l_val E ok (y_nilCheck rfl) rfl rfl fun a E => ?_
      refine l_val E ok (y_fieldAddr fo_88_1 rfl) rfl rfl fun a E => ?_
      refine l_storeB E ok 1 rfl rfl rfl inf_3 rfl rfl ⟨rfl, trivial⟩ rfl rfl fun w ok => ?_
      refine wpList_nil ?_
      refine t_norm ?_
      refine wp_seq ?_
      refine c_region ?_
      refine l_val E ok (y_move rfl) rfl rfl fun a E => ?_
      refine l_val E ok (y_assign rfl) rfl rfl fun a E => ?_
      refine wpList_nil ?_
      refine t_norm ?_
      refine wp_ret ?_
      have hret : condition_parser_number__98_R u m0 S pb0 pb1 x0 x1 (r71.1, (Parser.mk r64.s (IntKind.wrap .i64 (r64.at_ + (r10.1.length : Int))) r64.relations r64.e)) a w := ⟨(ok.pk 2 [1, 0] rfl (by decide)), E.d, ⟨rv_t E rfl, trivial⟩, r73, l66, (InR.wrap _ _), r68, r69⟩
      obtain rfl := Option.some.inj hF
      exact fin _ _ hret
  replace hF := cond_f hc63 hF
  replace E := E.upd 24 hc63 rfl
  refine l_val E ok (y_move rfl) rfl rfl fun a E => ?_
  refine l_val E ok (y_slen Tryz.underlying9 rfl) rfl rfl fun a E => ?_
  refine l_val E ok (y_gtr rfl rfl) rfl rfl fun a E => ?_
  refine l_val E ok (y_move rfl) rfl rfl fun a E => ?_
  refine bsplit (decide ((r10.1.length : Int) > 1)) (fun hc84 => ?_) (fun hc84 => ?_)
  rotate_left
  · as_aux_lemma =>
      replace hF := cond_f hc84 hF
      replace E := E.upd 28 hc84 rfl
      refine l_skip E rfl rfl fun a E => ?_
      refine l_skip E rfl rfl fun a E => ?_
      refine l_skip E rfl rfl fun a E => ?_
      refine l_val E ok (y_pickF rfl rfl) rfl rfl fun a E => ?_
      refine l_val E ok (y_pickF rfl rfl) rfl rfl fun a E => ?_
      refine wpList_nil ?_
      refine t_norm ?_
      refine c_if E rfl (fun h => by cases h) (fun _ => ?_)
      refine wp_skip ?_
      refine t_norm ?_
      refine wp_seq ?_
      refine wp_seq ?_
      refine c_region ?_
      refine l_val E ok (y_move rfl) rfl rfl fun a E => ?_
      refine l_val E ok (y_nilCheck rfl) rfl rfl fun a E => ?_
      refine l_val E ok (y_fieldAddr fo_88_3 rfl) rfl rfl fun a E => ?_
      refine l_val E ok (y_load one_25 rfl (Holds.own 0 rfl rfl)) rfl rfl fun a E => ?_
      refine l_val E ok (y_neq rfl rfl) rfl rfl fun a E => ?_
      refine wpList_nil ?_
      refine t_norm ?_
      refine c_if E rfl (fun hc117 => ?_) (fun hc117 => ?_)
      · replace hF := cond_t hc117 hF
        refine wp_seq ?_
        refine c_region ?_
        refine l_val E ok (y_assign rfl) rfl rfl fun a E => ?_
        refine wpList_nil ?_
        refine t_norm ?_
        refine wp_ret ?_
        refine t_ret ?_
        have hret : condition_parser_number__98_R u m0 S pb0 pb1 x0 x1 (0, r10.2) a w := ⟨ok, E.d, ⟨rv_t E rfl, trivial⟩, (show InR .i64 (0) by decide), l13, r14, r15, r16⟩
        obtain rfl := Option.some.inj hF
        exact fin _ _ hret
      replace hF := cond_f hc117 hF
      refine wp_skip ?_
      refine t_norm ?_
      refine wp_seq ?_
      refine c_region ?_
      refine l_val E ok (y_move rfl) rfl rfl fun a E => ?_
      obtain ⟨r118, e119, hF⟩ := bnd hF
      refine l_call E go_127 rfl (strconv_Atoi_w N r10.1 l12 e119 hG ok) rfl rfl ?_
      rintro _ w ⟨⟨rfl, ok⟩, r120⟩
      refine ⟨_, rfl, fun a E => ?_⟩
      refine l_val E ok (y_move rfl) rfl rfl fun a E => ?_
      refine l_val E ok (y_extract rfl rfl) rfl rfl fun a E => ?_
      refine l_val E ok (y_extract rfl rfl) rfl rfl fun a E => ?_
      refine l_val E ok (y_assign rfl) rfl rfl fun a E => ?_
      refine l_val E ok (y_assign rfl) rfl rfl fun a E => ?_
      refine wpList_nil ?_
      refine t_norm ?_
      refine wp_seq ?_
      refine wp_seq ?_
      refine c_region ?_
      refine l_val E ok (y_move rfl) rfl rfl fun a E => ?_
      refine l_val E ok (y_move rfl) rfl rfl fun a E => ?_
      obtain ⟨r121, e122, hF⟩ := bnd hF
      replace ok : Ok u m0 ([(pb1, Obj.cells [(Value.int .i64 x1)].toArray 3 (0, 0))] :: [(pb0, Obj.cells [(Value.string (bs r10.2.s)), (Value.int .i64 r10.2.at_), (Value.int .i64 r10.2.relations), (Value.int .i64 r10.2.e)].toArray 88 (0, 0))] :: S) w := (ok.pk 2 [1, 0] rfl (by decide))
      refine l_callc E rfl go_98 rfl (condition_parser_relation_1_w N r118.1 r120 x1 r5 e122 hG ok) rfl rfl ?_
      rintro _ w ⟨⟨rfl, ok⟩, r123⟩
      refine ⟨_, rfl, fun a E => ?_⟩
      refine l_val E ok (y_assign rfl) rfl rfl fun a E => ?_
      refine wpList_nil ?_
      refine t_norm ?_
      refine wp_seq ?_
      refine c_region ?_
      refine l_val E ok (y_move rfl) rfl rfl fun a E => ?_
      refine l_val E ok (y_neq rfl rfl) rfl rfl fun a E => ?_
      refine wpList_nil ?_
      refine t_norm ?_
      refine c_if E rfl (fun hc124 => ?_) (fun hc124 => ?_)
      · replace hF := cond_t hc124 hF
        refine wp_seq ?_
        refine c_region ?_
        refine l_val E ok (y_move rfl) rfl rfl fun a E => ?_
        refine l_val E ok (y_move rfl) rfl rfl fun a E => ?_
        obtain ⟨r125, e126, hF⟩ := bnd hF
        replace ok : Ok u m0 ([(pb0, Obj.cells [(Value.string (bs r10.2.s)), (Value.int .i64 r10.2.at_), (Value.int .i64 r10.2.relations), (Value.int .i64 r10.2.e)].toArray 88 (0, 0))] :: [(pb1, Obj.cells [(Value.int .i64 x1)].toArray 3 (0, 0))] :: S) w := (ok.pk 2 [1, 0] rfl (by decide))
        refine l_call E go_71 rfl (condition_parser_fail_w N r121 r123 r10.2 l13 r14 r15 r16 e126 hG ok) rfl rfl ?_
        rintro _ w ⟨⟨rfl, ok⟩, l127, r128, r129, r130⟩
        refine ⟨_, rfl, fun a E => ?_⟩
        refine wpList_nil ?_
        refine t_norm ?_
        refine wp_seq ?_
        refine c_region ?_
        refine l_val E ok (y_assign rfl) rfl rfl fun a E => ?_
        refine wpList_nil ?_
        refine t_norm ?_
        refine wp_ret ?_
        refine t_ret ?_
        have hret : condition_parser_number__98_R u m0 S pb0 pb1 x0 x1 (0, r125) a w := ⟨ok, E.d, ⟨rv_t E rfl, trivial⟩, (show InR .i64 (0) by decide), l127, r128, r129, r130⟩
        obtain rfl := Option.some.inj hF
        exact fin _ _ hret
      replace hF := cond_f hc124 hF
      refine wp_skip ?_
      refine t_norm ?_
      refine wp_seq ?_
      refine c_region ?_
      refine l_val E ok (y_move rfl) rfl rfl fun a E => ?_
      refine l_val E ok (y_nilCheck rfl) rfl rfl fun a E => ?_
      refine l_val E ok (y_fieldAddr fo_88_1 rfl) rfl rfl fun a E => ?_
      refine l_val E ok (y_load one_3 rfl (Holds.own 1 rfl rfl)) rfl rfl fun a E => ?_
      refine l_val E ok (y_move rfl) rfl rfl fun a E => ?_
      refine l_val E ok (y_slen Tryz.underlying9 rfl) rfl rfl fun a E => ?_
      refine l_val E ok (y_addw rfl rfl) rfl rfl fun a E => ?_
      refine l_val E ok (y_nilCheck rfl) rfl rfl fun a E => ?_
      refine l_val E ok (y_fieldAddr fo_88_1 rfl) rfl rfl fun a E => ?_
      refine l_storeB E ok 1 rfl rfl rfl inf_3 rfl rfl ⟨rfl, trivial⟩ rfl rfl fun w ok => ?_
      refine wpList_nil ?_
      refine t_norm ?_
      refine wp_seq ?_
      refine c_region ?_
      refine l_val E ok (y_move rfl) rfl rfl fun a E => ?_
      refine l_val E ok (y_assign rfl) rfl rfl fun a E => ?_
      refine wpList_nil ?_
      refine t_norm ?_
      refine wp_ret ?_
      have hret : condition_parser_number__98_R u m0 S pb0 pb1 x0 x1 (r118.1, (Parser.mk r10.2.s (IntKind.wrap .i64 (r10.2.at_ + (r10.1.length : Int))) r10.2.relations r10.2.e)) a w := ⟨(ok.pk 2 [1, 0] rfl (by decide)), E.d, ⟨rv_t E rfl, trivial⟩, r120, l13, (InR.wrap _ _), r15, r16⟩
      obtain rfl := Option.some.inj hF
      exact fin _ _ hret
  replace hF := cond_t hc84 hF
  replace E := E.upd 28 hc84 rfl
  refine l_val E ok (y_move rfl) rfl rfl fun a E => ?_
  obtain ⟨c85, e86, hF⟩ := bnd hF
  refine l_val E ok (y_index Tryz.underlying9 rfl rfl e86) rfl rfl fun a E => ?_
  refine l_val E ok (y_eql rfl rfl) rfl rfl fun a E => ?_
  refine l_val E ok (y_pickT rfl rfl) rfl rfl fun a E => ?_
  refine l_val E ok (y_pickF rfl rfl) rfl rfl fun a E => ?_
  refine wpList_nil ?_
  refine t_norm ?_
  obtain ⟨o87, hJ, hF⟩ := bnd hF
  refine c_mono (Q' := fun e a w => e = .normal ∧ Ok u m0 ([(pb0, Obj.cells [(Value.string (bs o87.s)), (Value.int .i64 o87.at_), (Value.int .i64 o87.relations), (Value.int .i64 o87.e)].toArray 88 (0, 0))] :: [(pb1, Obj.cells [(Value.int .i64 x1)].toArray 3 (0, 0))] :: S) w ∧ Env 64 a [(0, (Value.pointer (some ⟨pb0, 0, none⟩))), (1, (Value.func (.func 98) #[] #[.pointer (some ⟨pb1, 0, none⟩)])), (5, (Value.string (bs r10.1)))] ∧ o87.s.length ≤ LIMS ∧ InR .i64 o87.at_ ∧ InR .i64 o87.relations ∧ InR .i64 o87.e) ?_ ?_
  · replace hF := hJ
    clear hJ
    refine c_if E rfl (fun hc92 => ?_) (fun hc92 => ?_)
    rotate_left
    · replace hF := cond_f hc92 hF
      refine wp_skip ?_
      obtain rfl := Option.some.inj hF
      exact ⟨rfl, ⟨ok, E.keep [0, 1, 5], l13, r14, r15, r16⟩⟩
    replace hF := cond_t hc92 hF
    refine c_region ?_
    refine l_val E ok (y_move rfl) rfl rfl fun a E => ?_
    obtain ⟨r93, e94, hF⟩ := bnd hF
    refine l_call E go_71 rfl (condition_parser_fail_w N 3 (show InR .i64 (3) by decide) r10.2 l13 r14 r15 r16 e94 hG ok) rfl rfl ?_
    rintro _ w ⟨⟨rfl, ok⟩, l95, r96, r97, r98⟩
    refine ⟨_, rfl, fun a E => ?_⟩
    refine wpList_nil ?_
    obtain rfl := Option.some.inj hF
    exact ⟨rfl, ⟨ok, E.keep [0, 1, 5], l95, r96, r97, r98⟩⟩
  clear hJ
  intro e a w hO
  obtain ⟨rfl, ok, E, l99, r100, r101, r102⟩ := hO
  refine t_norm ?_
  refine wp_seq ?_
  refine wp_seq ?_
  refine c_region ?_
  refine l_val E ok (y_move rfl) rfl rfl fun a E => ?_
  refine l_val E ok (y_nilCheck rfl) rfl rfl fun a E => ?_
  refine l_val E ok (y_fieldAddr fo_88_3 rfl) rfl rfl fun a E => ?_
  refine l_val E ok (y_load one_25 rfl (Holds.own 0 rfl rfl)) rfl rfl fun a E => ?_
  refine l_val E ok (y_neq rfl rfl) rfl rfl fun a E => ?_
  refine wpList_nil ?_
  refine t_norm ?_
  refine c_if E rfl (fun hc103 => ?_) (fun hc103 => ?_)
  · replace hF := cond_t hc103 hF
    refine wp_seq ?_
    refine c_region ?_
    refine l_val E ok (y_assign rfl) rfl rfl fun a E => ?_
    refine wpList_nil ?_
    refine t_norm ?_
    refine wp_ret ?_
    refine t_ret ?_
    have hret : condition_parser_number__98_R u m0 S pb0 pb1 x0 x1 (0, o87) a w := ⟨ok, E.d, ⟨rv_t E rfl, trivial⟩, (show InR .i64 (0) by decide), l99, r100, r101, r102⟩
    obtain rfl := Option.some.inj hF
    exact fin _ _ hret
  replace hF := cond_f hc103 hF
  refine wp_skip ?_
  refine t_norm ?_
  refine wp_seq ?_
  refine c_region ?_
  refine l_val E ok (y_move rfl) rfl rfl fun a E => ?_
  obtain ⟨r104, e105, hF⟩ := bnd hF
  refine l_call E go_127 rfl (strconv_Atoi_w N r10.1 l12 e105 hG ok) rfl rfl ?_
  rintro _ w ⟨⟨rfl, ok⟩, r106⟩
  refine ⟨_, rfl, fun a E => ?_⟩
  refine l_val E ok (y_move rfl) rfl rfl fun a E => ?_
  refine l_val E ok (y_extract rfl rfl) rfl rfl fun a E => ?_
  refine l_val E ok (y_extract rfl rfl) rfl rfl fun a E => ?_
  refine l_val E ok (y_assign rfl) rfl rfl fun a E => ?_
  refine l_val E ok (y_assign rfl) rfl rfl fun a E => ?_
  refine wpList_nil ?_
  refine t_norm ?_
  refine wp_seq ?_
  refine wp_seq ?_
  refine c_region ?_
  refine l_val E ok (y_move rfl) rfl rfl fun a E => ?_
  refine l_val E ok (y_move rfl) rfl rfl fun a E => ?_
  obtain ⟨r107, e108, hF⟩ := bnd hF
  replace ok : Ok u m0 ([(pb1, Obj.cells [(Value.int .i64 x1)].toArray 3 (0, 0))] :: [(pb0, Obj.cells [(Value.string (bs o87.s)), (Value.int .i64 o87.at_), (Value.int .i64 o87.relations), (Value.int .i64 o87.e)].toArray 88 (0, 0))] :: S) w := (ok.pk 2 [1, 0] rfl (by decide))
  refine l_callc E rfl go_98 rfl (condition_parser_relation_1_w N r104.1 r106 x1 r5 e108 hG ok) rfl rfl ?_
  rintro _ w ⟨⟨rfl, ok⟩, r109⟩
  refine ⟨_, rfl, fun a E => ?_⟩
  refine l_val E ok (y_assign rfl) rfl rfl fun a E => ?_
  refine wpList_nil ?_
  refine t_norm ?_
  refine wp_seq ?_
  refine c_region ?_
  refine l_val E ok (y_move rfl) rfl rfl fun a E => ?_
  refine l_val E ok (y_neq rfl rfl) rfl rfl fun a E => ?_
  refine wpList_nil ?_
  refine t_norm ?_
  refine c_if E rfl (fun hc110 => ?_) (fun hc110 => ?_)
  · replace hF := cond_t hc110 hF
    refine wp_seq ?_
    refine c_region ?_
    refine l_val E ok (y_move rfl) rfl rfl fun a E => ?_
    refine l_val E ok (y_move rfl) rfl rfl fun a E => ?_
    obtain ⟨r111, e112, hF⟩ := bnd hF
    replace ok : Ok u m0 ([(pb0, Obj.cells [(Value.string (bs o87.s)), (Value.int .i64 o87.at_), (Value.int .i64 o87.relations), (Value.int .i64 o87.e)].toArray 88 (0, 0))] :: [(pb1, Obj.cells [(Value.int .i64 x1)].toArray 3 (0, 0))] :: S) w := (ok.pk 2 [1, 0] rfl (by decide))
    refine l_call E go_71 rfl (condition_parser_fail_w N r107 r109 o87 l99 r100 r101 r102 e112 hG ok) rfl rfl ?_
    rintro _ w ⟨⟨rfl, ok⟩, l113, r114, r115, r116⟩
    refine ⟨_, rfl, fun a E => ?_⟩
    refine wpList_nil ?_
    refine t_norm ?_
    refine wp_seq ?_
    refine c_region ?_
    refine l_val E ok (y_assign rfl) rfl rfl fun a E => ?_
    refine wpList_nil ?_
    refine t_norm ?_
    refine wp_ret ?_
    refine t_ret ?_
    have hret : condition_parser_number__98_R u m0 S pb0 pb1 x0 x1 (0, r111) a w := ⟨ok, E.d, ⟨rv_t E rfl, trivial⟩, (show InR .i64 (0) by decide), l113, r114, r115, r116⟩
    obtain rfl := Option.some.inj hF
    exact fin _ _ hret
  replace hF := cond_f hc110 hF
  refine wp_skip ?_
  refine t_norm ?_
  refine wp_seq ?_
  refine c_region ?_
  refine l_val E ok (y_move rfl) rfl rfl fun a E => ?_
  refine l_val E ok (y_nilCheck rfl) rfl rfl fun a E => ?_
  refine l_val E ok (y_fieldAddr fo_88_1 rfl) rfl rfl fun a E => ?_
  refine l_val E ok (y_load one_3 rfl (Holds.own 1 rfl rfl)) rfl rfl fun a E => ?_
  refine l_val E ok (y_move rfl) rfl rfl fun a E => ?_
  refine l_val E ok (y_slen Tryz.underlying9 rfl) rfl rfl fun a E => ?_
  refine l_val E ok (y_addw rfl rfl) rfl rfl fun a E => ?_
  refine l_val E ok (y_nilCheck rfl) rfl rfl fun a E => ?_
  refine l_val E ok (y_fieldAddr fo_88_1 rfl) rfl rfl fun a E => ?_
  refine l_storeB E ok 1 rfl rfl rfl inf_3 rfl rfl ⟨rfl, trivial⟩ rfl rfl fun w ok => ?_
  refine wpList_nil ?_
  refine t_norm ?_
  refine wp_seq ?_
  refine c_region ?_
  refine l_val E ok (y_move rfl) rfl rfl fun a E => ?_
  refine l_val E ok (y_assign rfl) rfl rfl fun a E => ?_
  refine wpList_nil ?_
  refine t_norm ?_
  refine wp_ret ?_
  have hret : condition_parser_number__98_R u m0 S pb0 pb1 x0 x1 (r104.1, (Parser.mk o87.s (IntKind.wrap .i64 (o87.at_ + (r10.1.length : Int))) o87.relations o87.e)) a w := ⟨(ok.pk 2 [1, 0] rfl (by decide)), E.d, ⟨rv_t E rfl, trivial⟩, r106, l99, (InR.wrap _ _), r101, r102⟩
  obtain rfl := Option.some.inj hF
  exact fin _ _ hret

def condition_parser_span_1_R (u : World) (m0 : Mem) (S : Segs) (pb0 : Nat) (pb1 : Nat) (x0 : Int) (x1 : Int) (r : Int) (a : Act) (w : World) : Prop :=
  Ok u m0 ([(pb0, Obj.cells [(Value.int .i64 x0)].toArray 3 (0, 0))] :: [(pb1, Obj.cells [(Value.int .i64 x1)].toArray 3 (0, 0))] :: S) w ∧ a.defers = [] ∧ RVs Tryz.prog a w [.t 4 (.int .i64 r)] ∧ InR .i64 r
set_option maxHeartbeats 4000000 in
set_option maxRecDepth 100000 in
theorem condition_parser_span_1_w {u : World} {m0 : Mem} {S : Segs} {w : World} (N : Nat) (n_0 : Int) (rn_0 : InR .i64 n_0) {pb0 : Nat} (x0 : Int) (r1 : InR .i64 x0) {pb1 : Nat} (x1 : Int) (r2 : InR .i64 x1) {r : Int} (hF : condition_parser_span_1 N n_0 x0 x1 = some r) (hG : Glob u) (ok : Ok u m0 ([(pb0, Obj.cells [(Value.int .i64 x0)].toArray 3 (0, 0))] :: [(pb1, Obj.cells [(Value.int .i64 x1)].toArray 3 (0, 0))] :: S) w) :
    Calls Tryz.prog 128 [Value.int .i64 n_0, Value.pointer (some ⟨pb0, 0, none⟩), Value.pointer (some ⟨pb1, 0, none⟩)].toArray w fun e w' => (e = .returned (.int .i64 r) ∧ Ok u m0 ([(pb0, Obj.cells [(Value.int .i64 x0)].toArray 3 (0, 0))] :: [(pb1, Obj.cells [(Value.int .i64 x1)].toArray 3 (0, 0))] :: S) w') ∧ InR .i64 r := by
  have hb0 := ok.base
  have le_m0 := Mem.le.refl m0
  unfold condition_parser_span_1 at hF
  have fin : ∀ a w, condition_parser_span_1_R u m0 S pb0 pb1 x0 x1 r a w → bodyPost Tryz.prog Tryz.f128 (fun e w' => (e = .returned (.int .i64 r) ∧ Ok u m0 ([(pb0, Obj.cells [(Value.int .i64 x0)].toArray 3 (0, 0))] :: [(pb1, Obj.cells [(Value.int .i64 x1)].toArray 3 (0, 0))] :: S) w') ∧ InR .i64 r) .ret a w := by
    intro a w h
    obtain ⟨ok, hd, hrv, h0⟩ := h
    exact c_ret2 [.t 4 (.int .i64 r)] hd rfl hrv ⟨⟨rfl, ok⟩, h0⟩
  refine enter Tryz.func128 rfl rfl rfl fun a E => ?_
  refine wp_seq ?_
  refine c_region ?_
  refine l_val E ok (y_assign rfl) rfl rfl fun a E => ?_
  refine wpList_nil ?_
  refine t_norm ?_
  refine wp_seq ?_
  refine wp_block ?_
  refine wp_seq ?_
  refine c_region ?_
  refine l_val E ok (y_move rfl) rfl rfl fun a E => ?_
  refine l_val E ok (y_load one_3 rfl (Holds.own 0 rfl rfl)) rfl rfl fun a E => ?_
  obtain ⟨r3, e4, hF⟩ := bnd hF
  refine l_call E go_81 rfl (condition_greatest_w N x0 r1 e4 hG ok) rfl rfl ?_
  rintro _ w ⟨⟨rfl, ok⟩, r5⟩
  refine ⟨_, rfl, fun a E => ?_⟩
  refine l_val E ok (y_gtr rfl rfl) rfl rfl fun a E => ?_
  refine l_val E ok (y_assign rfl) rfl rfl fun a E => ?_
  refine wpList_nil ?_
  refine t_norm ?_
  refine c_if E rfl (fun hc6 => ?_) (fun hc6 => ?_)
  · replace hF := cond_t hc6 hF
    refine wp_seq ?_
    refine c_region ?_
    refine l_val E ok (y_assign rfl) rfl rfl fun a E => ?_
    refine wpList_nil ?_
    refine t_norm ?_
    refine wp_ret ?_
    refine b_ret ?_
    refine t_ret ?_
    have hret : condition_parser_span_1_R u m0 S pb0 pb1 x0 x1 2 a w := ⟨ok, E.d, ⟨rv_t E rfl, trivial⟩, (show InR .i64 (2) by decide)⟩
    obtain rfl := Option.some.inj hF
    exact fin _ _ hret
  replace hF := cond_f hc6 hF
  refine wp_seq ?_
  refine c_region ?_
  refine l_val E ok (y_load one_3 rfl (Holds.own 1 rfl rfl)) rfl rfl fun a E => ?_
  refine l_val E ok (y_geq rfl rfl) rfl rfl fun a E => ?_
  refine l_val E ok (y_assign rfl) rfl rfl fun a E => ?_
  refine wpList_nil ?_
  refine t_norm ?_
  refine c_if E rfl (fun hc7 => ?_) (fun hc7 => ?_)
  · replace hF := cond_t hc7 hF
    refine wp_seq ?_
    refine c_region ?_
    refine l_val E ok (y_assign rfl) rfl rfl fun a E => ?_
    refine wpList_nil ?_
    refine t_norm ?_
    refine wp_ret ?_
    refine b_ret ?_
    refine t_ret ?_
    have hret : condition_parser_span_1_R u m0 S pb0 pb1 x0 x1 6 a w := ⟨ok, E.d, ⟨rv_t E rfl, trivial⟩, (show InR .i64 (6) by decide)⟩
    obtain rfl := Option.some.inj hF
    exact fin _ _ hret
  replace hF := cond_f hc7 hF
  refine wp_skip ?_
  refine b_norm ?_
  refine t_norm ?_
  refine wp_seq ?_
  refine c_region ?_
  refine l_val E ok (y_assign rfl) rfl rfl fun a E => ?_
  refine wpList_nil ?_
  refine t_norm ?_
  refine wp_ret ?_
  have hret : condition_parser_span_1_R u m0 S pb0 pb1 x0 x1 0 a w := ⟨ok, E.d, ⟨rv_t E rfl, trivial⟩, (show InR .i64 (0) by decide)⟩
  obtain rfl := Option.some.inj hF
  exact fin _ _ hret

def condition_parser_number__128_R (u : World) (m0 : Mem) (S : Segs) (pb0 : Nat) (pb1 : Nat) (pb2 : Nat) (x0 : Parser) (x1 : Int) (x2 : Int) (r : Int × Parser) (a : Act) (w : World) : Prop :=
  Ok u m0 ([(pb0, Obj.cells [(Value.string (bs r.2.s)), (Value.int .i64 r.2.at_), (Value.int .i64 r.2.relations), (Value.int .i64 r.2.e)].toArray 88 (0, 0))] :: [(pb1, Obj.cells [(Value.int .i64 x1)].toArray 3 (0, 0))] :: [(pb2, Obj.cells [(Value.int .i64 x2)].toArray 3 (0, 0))] :: S) w ∧ a.defers = [] ∧ RVs Tryz.prog a w [.t 4 (.int .i64 r.1)] ∧ InR .i64 r.1 ∧ r.2.s.length ≤ LIMS ∧ InR .i64 r.2.at_ ∧ InR .i64 r.2.relations ∧ InR .i64 r.2.e
set_option maxHeartbeats 4000000 in
set_option maxRecDepth 100000 in
theorem condition_parser_number__128_w {u : World} {m0 : Mem} {S : Segs} {w : World} (N : Nat) {pb0 : Nat} (x0 : Parser) (l1 : x0.s.length ≤ LIMS) (r2 : InR .i64 x0.at_) (r3 : InR .i64 x0.relations) (r4 : InR .i64 x0.e) {pb1 : Nat} (x1 : Int) (r5 : InR .i64 x1) {pb2 : Nat} (x2 : Int) (r6 : InR .i64 x2) {r : Int × Parser} (hF : condition_parser_number__128 N x0 x1 x2 = some r) (hG : Glob u) (ok : Ok u m0 ([(pb0, Obj.cells [(Value.string (bs x0.s)), (Value.int .i64 x0.at_), (Value.int .i64 x0.relations), (Value.int .i64 x0.e)].toArray 88 (0, 0))] :: [(pb1, Obj.cells [(Value.int .i64 x1)].toArray 3 (0, 0))] :: [(pb2, Obj.cells [(Value.int .i64 x2)].toArray 3 (0, 0))] :: S) w) :
    Calls Tryz.prog 97 [Value.pointer (some ⟨pb0, 0, none⟩), Value.func (.func 128) #[] #[.pointer (some ⟨pb1, 0, none⟩), .pointer (some ⟨pb2, 0, none⟩)]].toArray w fun e w' => (e = .returned (.int .i64 r.1) ∧ Ok u m0 ([(pb0, Obj.cells [(Value.string (bs r.2.s)), (Value.int .i64 r.2.at_), (Value.int .i64 r.2.relations), (Value.int .i64 r.2.e)].toArray 88 (0, 0))] :: [(pb1, Obj.cells [(Value.int .i64 x1)].toArray 3 (0, 0))] :: [(pb2, Obj.cells [(Value.int .i64 x2)].toArray 3 (0, 0))] :: S) w') ∧ InR .i64 r.1 ∧ r.2.s.length ≤ LIMS ∧ InR .i64 r.2.at_ ∧ InR .i64 r.2.relations ∧ InR .i64 r.2.e := by
  have hb0 := ok.base
  have le_m0 := Mem.le.refl m0
  unfold condition_parser_number__128 at hF
  have fin : ∀ a w, condition_parser_number__128_R u m0 S pb0 pb1 pb2 x0 x1 x2 r a w → bodyPost Tryz.prog Tryz.f97 (fun e w' => (e = .returned (.int .i64 r.1) ∧ Ok u m0 ([(pb0, Obj.cells [(Value.string (bs r.2.s)), (Value.int .i64 r.2.at_), (Value.int .i64 r.2.relations), (Value.int .i64 r.2.e)].toArray 88 (0, 0))] :: [(pb1, Obj.cells [(Value.int .i64 x1)].toArray 3 (0, 0))] :: [(pb2, Obj.cells [(Value.int .i64 x2)].toArray 3 (0, 0))] :: S) w') ∧ InR .i64 r.1 ∧ r.2.s.length ≤ LIMS ∧ InR .i64 r.2.at_ ∧ InR .i64 r.2.relations ∧ InR .i64 r.2.e) .ret a w := by
    intro a w h
    obtain ⟨ok, hd, hrv, h0, h1, h2, h3, h4⟩ := h
    exact c_ret2 [.t 4 (.int .i64 r.1)] hd rfl hrv ⟨⟨rfl, ok⟩, h0, h1, h2, h3, h4⟩
  refine enter Tryz.func97 rfl rfl rfl fun a E => ?_
  refine wp_seq ?_
  refine c_region ?_
  refine l_val E ok (y_assign rfl) rfl rfl fun a E => ?_
  refine wpList_nil ?_
  refine t_norm ?_
  refine wp_seq ?_
  refine c_region ?_
  refine l_val E ok (y_move rfl) rfl rfl fun a E => ?_
  obtain ⟨r11, e12, hF⟩ := bnd hF
  refine l_call E go_94 rfl (condition_parser_peek_w N x0 l1 r2 r3 r4 e12 hG ok) rfl rfl ?_
  rintro _ w ⟨⟨rfl, ok⟩, l13, l14, r15, r16, r17⟩
  refine ⟨_, rfl, fun a E => ?_⟩
  refine l_val E ok (y_assign rfl) rfl rfl fun a E => ?_
  refine wpList_nil ?_
  refine t_norm ?_
  refine wp_seq ?_
  refine wp_seq ?_
  refine c_region ?_
  refine l_val E ok (y_move rfl) rfl rfl fun a E => ?_
  refine l_val E ok (y_seql rfl rfl) rfl rfl fun a E => ?_
  refine l_val E ok (y_move rfl) rfl rfl fun a E => ?_
  refine bsplit (r11.1 == ([])) (fun hc18 => ?_) (fun hc18 => ?_)
  · as_aux_lemma =>
      replace hF := cond_t hc18 hF
      replace E := E.upd 13 hc18 rfl
      refine l_skip E rfl rfl fun a E => ?_
      refine l_skip E rfl rfl fun a E => ?_
      refine l_skip E rfl rfl fun a E => ?_
      refine l_skip E rfl rfl fun a E => ?_
      refine l_val E ok (y_pickT rfl rfl) rfl rfl fun a E => ?_
      refine l_val E ok (y_move rfl) rfl rfl fun a E => ?_
      refine l_skip E rfl rfl fun a E => ?_
      refine l_skip E rfl rfl fun a E => ?_
      refine l_skip E rfl rfl fun a E => ?_
      refine l_val E ok (y_pickT rfl rfl) rfl rfl fun a E => ?_
      refine l_val E ok (y_move rfl) rfl rfl fun a E => ?_
      refine l_skip E rfl rfl fun a E => ?_
      refine l_skip E rfl rfl fun a E => ?_
      refine l_skip E rfl rfl fun a E => ?_
      refine l_skip E rfl rfl fun a E => ?_
      refine l_skip E rfl rfl fun a E => ?_
      refine l_skip E rfl rfl fun a E => ?_
      refine l_skip E rfl rfl fun a E => ?_
      refine l_skip E rfl rfl fun a E => ?_
      refine l_val E ok (y_pickT rfl rfl) rfl rfl fun a E => ?_
      refine wpList_nil ?_
      refine t_norm ?_
      refine c_if E rfl (fun _ => ?_) (fun h => by cases h)
      refine c_region ?_
      refine l_val E ok (y_move rfl) rfl rfl fun a E => ?_
      obtain ⟨r19, e20, hF⟩ := bnd hF
      refine l_call E go_71 rfl (condition_parser_fail_w N 3 (show InR .i64 (3) by decide) r11.2 l14 r15 r16 r17 e20 hG ok) rfl rfl ?_
      rintro _ w ⟨⟨rfl, ok⟩, l21, r22, r23, r24⟩
      refine ⟨_, rfl, fun a E => ?_⟩
      refine wpList_nil ?_
      refine t_norm ?_
      refine wp_seq ?_
      refine wp_seq ?_
      refine c_region ?_
      refine l_val E ok (y_move rfl) rfl rfl fun a E => ?_
      refine l_val E ok (y_nilCheck rfl) rfl rfl fun a E => ?_
      refine l_val E ok (y_fieldAddr fo_88_3 rfl) rfl rfl fun a E => ?_
      refine l_val E ok (y_load one_25 rfl (Holds.own 0 rfl rfl)) rfl rfl fun a E => ?_
      refine l_val E ok (y_neq rfl rfl) rfl rfl fun a E => ?_
      refine wpList_nil ?_
      refine t_norm ?_
      refine c_if E rfl (fun hc25 => ?_) (fun hc25 => ?_)
      · replace hF := cond_t hc25 hF
        refine wp_seq ?_
        refine c_region ?_
        refine l_val E ok (y_assign rfl) rfl rfl fun a E => ?_
        refine wpList_nil ?_
        refine t_norm ?_
        refine wp_ret ?_
        refine t_ret ?_
        have hret : condition_parser_number__128_R u m0 S pb0 pb1 pb2 x0 x1 x2 (0, r19) a w := ⟨ok, E.d, ⟨rv_t E rfl, trivial⟩, (show InR .i64 (0) by decide), l21, r22, r23, r24⟩
        obtain rfl := Option.some.inj hF
        exact fin _ _ hret
      replace hF := cond_f hc25 hF
      refine wp_skip ?_
      refine t_norm ?_
      refine wp_seq ?_
      refine c_region ?_
      refine l_val E ok (y_move rfl) rfl rfl fun a E => ?_
      obtain ⟨r26, e27, hF⟩ := bnd hF
      refine l_call E go_127 rfl (strconv_Atoi_w N r11.1 l13 e27 hG ok) rfl rfl ?_
      rintro _ w ⟨⟨rfl, ok⟩, r28⟩
      refine ⟨_, rfl, fun a E => ?_⟩
      refine l_val E ok (y_move rfl) rfl rfl fun a E => ?_
      refine l_val E ok (y_extract rfl rfl) rfl rfl fun a E => ?_
      refine l_val E ok (y_extract rfl rfl) rfl rfl fun a E => ?_
      refine l_val E ok (y_assign rfl) rfl rfl fun a E => ?_
      refine l_val E ok (y_assign rfl) rfl rfl fun a E => ?_
      refine wpList_nil ?_
      refine t_norm ?_
      refine wp_seq ?_
      refine wp_seq ?_
      refine c_region ?_
      refine l_val E ok (y_move rfl) rfl rfl fun a E => ?_
      refine l_val E ok (y_move rfl) rfl rfl fun a E => ?_
      obtain ⟨r29, e30, hF⟩ := bnd hF
      replace ok : Ok u m0 ([(pb1, Obj.cells [(Value.int .i64 x1)].toArray 3 (0, 0))] :: [(pb2, Obj.cells [(Value.int .i64 x2)].toArray 3 (0, 0))] :: [(pb0, Obj.cells [(Value.string (bs r19.s)), (Value.int .i64 r19.at_), (Value.int .i64 r19.relations), (Value.int .i64 r19.e)].toArray 88 (0, 0))] :: S) w := (ok.pk 3 [1, 2, 0] rfl (by decide))
      refine l_callc E rfl go_128 rfl (condition_parser_span_1_w N r26.1 r28 x1 r5 x2 r6 e30 hG ok) rfl rfl ?_
      rintro _ w ⟨⟨rfl, ok⟩, r31⟩
      refine ⟨_, rfl, fun a E => ?_⟩
      refine l_val E ok (y_assign rfl) rfl rfl fun a E => ?_
      refine wpList_nil ?_
      refine t_norm ?_
      refine wp_seq ?_
      refine c_region ?_
      refine l_val E ok (y_move rfl) rfl rfl fun a E => ?_
      refine l_val E ok (y_neq rfl rfl) rfl rfl fun a E => ?_
      refine wpList_nil ?_
      refine t_norm ?_
      refine c_if E rfl (fun hc32 => ?_) (fun hc32 => ?_)
      · replace hF := cond_t hc32 hF
        refine wp_seq ?_
        refine c_region ?_
        refine l_val E ok (y_move rfl) rfl rfl fun a E => ?_
        refine l_val E ok (y_move rfl) rfl rfl fun a E => ?_
        obtain ⟨r33, e34, hF⟩ := bnd hF
        replace ok : Ok u m0 ([(pb0, Obj.cells [(Value.string (bs r19.s)), (Value.int .i64 r19.at_), (Value.int .i64 r19.relations), (Value.int .i64 r19.e)].toArray 88 (0, 0))] :: [(pb1, Obj.cells [(Value.int .i64 x1)].toArray 3 (0, 0))] :: [(pb2, Obj.cells [(Value.int .i64 x2)].toArray 3 (0, 0))] :: S) w := (ok.pk 3 [2, 0, 1] rfl (by decide))
        refine l_call E go_71 rfl (condition_parser_fail_w N r29 r31 r19 l21 r22 r23 r24 e34 hG ok) rfl rfl ?_
        rintro _ w ⟨⟨rfl, ok⟩, l35, r36, r37, r38⟩
        refine ⟨_, rfl, fun a E => ?_⟩
        refine wpList_nil ?_
        refine t_norm ?_
        refine wp_seq ?_
        refine c_region ?_
        refine l_val E ok (y_assign rfl) rfl rfl fun a E => ?_
        refine wpList_nil ?_
        refine t_norm ?_
        refine wp_ret ?_
        refine t_ret ?_
        have hret : condition_parser_number__128_R u m0 S pb0 pb1 pb2 x0 x1 x2 (0, r33) a w := ⟨ok, E.d, ⟨rv_t E rfl, trivial⟩, (show InR .i64 (0) by decide), l35, r36, r37, r38⟩
        obtain rfl := Option.some.inj hF
        exact fin _ _ hret
      replace hF := cond_f hc32 hF
      refine wp_skip ?_
      refine t_norm ?_
      refine wp_seq ?_
      refine c_region ?_
      refine l_val E ok (y_move rfl) rfl rfl fun a E => ?_
      refine l_val E ok (y_nilCheck rfl) rfl rfl fun a E => ?_
      refine l_val E ok (y_fieldAddr fo_88_1 rfl) rfl rfl fun a E => ?_
      refine l_val E ok (y_load one_3 rfl (Holds.own 2 rfl rfl)) rfl rfl fun a E => ?_
      refine l_val E ok (y_move rfl) rfl rfl fun a E => ?_
      refine l_val E ok (y_slen Tryz.underlying9 rfl) rfl rfl fun a E => ?_
      refine l_val E ok (y_addw rfl rfl) rfl rfl fun a E => ?_
      refine l_val E ok (y_nilCheck rfl) rfl rfl fun a E => ?_
      refine l_val E ok (y_fieldAddr fo_88_1 rfl) rfl rfl fun a E => ?_
      refine l_storeB E ok 2 rfl rfl rfl inf_3 rfl rfl ⟨rfl, trivial⟩ rfl rfl fun w ok => ?_
      refine wpList_nil ?_
      refine t_norm ?_
      refine wp_seq ?_
      refine c_region ?_
      refine l_val E ok (y_move rfl) rfl rfl fun a E => ?_
      refine l_val E ok (y_assign rfl) rfl rfl fun a E => ?_
      refine wpList_nil ?_
      refine t_norm ?_
      refine wp_ret ?_
      have hret : condition_parser_number__128_R u m0 S pb0 pb1 pb2 x0 x1 x2 (r26.1, (Parser.mk r19.s (IntKind.wrap .i64 (r19.at_ + (r11.1.length : Int))) r19.relations r19.e)) a w := ⟨(ok.pk 3 [2, 0, 1] rfl (by decide)), E.d, ⟨rv_t E rfl, trivial⟩, r28, l21, (InR.wrap _ _), r23, r24⟩
      obtain rfl := Option.some.inj hF
      exact fin _ _ hret
  replace hF := cond_f hc18 hF
  replace E := E.upd 13 hc18 rfl
  refine l_val E ok (y_move rfl) rfl rfl fun a E => ?_
  obtain ⟨c39, e40, hF⟩ := bnd hF
  refine l_val E ok (y_index Tryz.underlying9 rfl rfl e40) rfl rfl fun a E => ?_
  obtain ⟨r41, e42, hF⟩ := bnd hF
  refine l_call E go_124 rfl (condition_digit_w N (c39.toNat : Int) (InR.byte c39) e42 hG ok) rfl rfl ?_
  rintro _ w ⟨rfl, ok⟩
  refine ⟨_, rfl, fun a E => ?_⟩
  refine l_val E ok (y_not rfl) rfl rfl fun a E => ?_
  refine l_val E ok (y_pickF rfl rfl) rfl rfl fun a E => ?_
  refine l_val E ok (y_move rfl) rfl rfl fun a E => ?_
  refine bsplit (!r41) (fun hc43 => ?_) (fun hc43 => ?_)
  · as_aux_lemma =>
      replace hF := cond_t hc43 hF
      replace E := E.upd 19 hc43 rfl
      refine l_skip E rfl rfl fun a E => ?_
      refine l_skip E rfl rfl fun a E => ?_
      refine l_skip E rfl rfl fun a E => ?_
      refine l_val E ok (y_pickT rfl rfl) rfl rfl fun a E => ?_
      refine l_val E ok (y_move rfl) rfl rfl fun a E => ?_
      refine l_skip E rfl rfl fun a E => ?_
      refine l_skip E rfl rfl fun a E => ?_
      refine l_skip E rfl rfl fun a E => ?_
      refine l_skip E rfl rfl fun a E => ?_
      refine l_skip E rfl rfl fun a E => ?_
      refine l_skip E rfl rfl fun a E => ?_
      refine l_skip E rfl rfl fun a E => ?_
      refine l_skip E rfl rfl fun a E => ?_
      refine l_val E ok (y_pickT rfl rfl) rfl rfl fun a E => ?_
      refine wpList_nil ?_
      refine t_norm ?_
      refine c_if E rfl (fun _ => ?_) (fun h => by cases h)
      refine c_region ?_
      refine l_val E ok (y_move rfl) rfl rfl fun a E => ?_
      obtain ⟨r44, e45, hF⟩ := bnd hF
      refine l_call E go_71 rfl (condition_parser_fail_w N 3 (show InR .i64 (3) by decide) r11.2 l14 r15 r16 r17 e45 hG ok) rfl rfl ?_
      rintro _ w ⟨⟨rfl, ok⟩, l46, r47, r48, r49⟩
      refine ⟨_, rfl, fun a E => ?_⟩
      refine wpList_nil ?_
      refine t_norm ?_
      refine wp_seq ?_
      refine wp_seq ?_
      refine c_region ?_
      refine l_val E ok (y_move rfl) rfl rfl fun a E => ?_
      refine l_val E ok (y_nilCheck rfl) rfl rfl fun a E => ?_
      refine l_val E ok (y_fieldAddr fo_88_3 rfl) rfl rfl fun a E => ?_
      refine l_val E ok (y_load one_25 rfl (Holds.own 0 rfl rfl)) rfl rfl fun a E => ?_
      refine l_val E ok (y_neq rfl rfl) rfl rfl fun a E => ?_
      refine wpList_nil ?_
      refine t_norm ?_
      refine c_if E rfl (fun hc50 => ?_) (fun hc50 => ?_)
      · replace hF := cond_t hc50 hF
        refine wp_seq ?_
        refine c_region ?_
        refine l_val E ok (y_assign rfl) rfl rfl fun a E => ?_
        refine wpList_nil ?_
        refine t_norm ?_
        refine wp_ret ?_
        refine t_ret ?_
        have hret : condition_parser_number__128_R u m0 S pb0 pb1 pb2 x0 x1 x2 (0, r44) a w := ⟨ok, E.d, ⟨rv_t E rfl, trivial⟩, (show InR .i64 (0) by decide), l46, r47, r48, r49⟩
        obtain rfl := Option.some.inj hF
        exact fin _ _ hret
      replace hF := cond_f hc50 hF
      refine wp_skip ?_
      refine t_norm ?_
      refine wp_seq ?_
      refine c_region ?_
      refine l_val E ok (y_move rfl) rfl rfl fun a E => ?_
      obtain ⟨r51, e52, hF⟩ := bnd hF
      refine l_call E go_127 rfl (strconv_Atoi_w N r11.1 l13 e52 hG ok) rfl rfl ?_
      rintro _ w ⟨⟨rfl, ok⟩, r53⟩
      refine ⟨_, rfl, fun a E => ?_⟩
      refine l_val E ok (y_move rfl) rfl rfl fun a E => ?_
      refine l_val E ok (y_extract rfl rfl) rfl rfl fun a E => ?_
      refine l_val E ok (y_extract rfl rfl) rfl rfl fun a E => ?_
      refine l_val E ok (y_assign rfl) rfl rfl fun a E => ?_
      refine l_val E ok (y_assign rfl) rfl rfl fun a E => ?_
      refine wpList_nil ?_
      refine t_norm ?_
      refine wp_seq ?_
      refine wp_seq ?_
      refine c_region ?_
      refine l_val E ok (y_move rfl) rfl rfl fun a E => ?_
      refine l_val E ok (y_move rfl) rfl rfl fun a E => ?_
      obtain ⟨r54, e55, hF⟩ := bnd hF
      replace ok : Ok u m0 ([(pb1, Obj.cells [(Value.int .i64 x1)].toArray 3 (0, 0))] :: [(pb2, Obj.cells [(Value.int .i64 x2)].toArray 3 (0, 0))] :: [(pb0, Obj.cells [(Value.string (bs r44.s)), (Value.int .i64 r44.at_), (Value.int .i64 r44.relations), (Value.int .i64 r44.e)].toArray 88 (0, 0))] :: S) w := (ok.pk 3 [1, 2, 0] rfl (by decide))
      refine l_callc E rfl go_128 rfl (condition_parser_span_1_w N r51.1 r53 x1 r5 x2 r6 e55 hG ok) rfl rfl ?_
      rintro _ w ⟨⟨rfl, ok⟩, r56⟩
      refine ⟨_, rfl, fun a E => ?_⟩
      refine l_val E ok (y_assign rfl) rfl rfl fun a E => ?_
      refine wpList_nil ?_
      refine t_norm ?_
      refine wp_seq ?_
      refine c_region ?_
      refine l_val E ok (y_move rfl) rfl rfl fun a E => ?_
      refine l_val E ok (y_neq rfl rfl) rfl rfl fun a E => ?_
      refine wpList_nil ?_
      refine t_norm ?_
      refine c_if E rfl (fun hc57 => ?_) (fun hc57 => ?_)
      · replace hF := cond_t hc57 hF
        refine wp_seq ?_
        refine c_region ?_
        refine l_val E ok (y_move rfl) rfl rfl fun a E => ?_
        refine l_val E ok (y_move rfl) rfl rfl fun a E => ?_
        obtain ⟨r58, e59, hF⟩ := bnd hF
        replace ok : Ok u m0 ([(pb0, Obj.cells [(Value.string (bs r44.s)), (Value.int .i64 r44.at_), (Value.int .i64 r44.relations), (Value.int .i64 r44.e)].toArray 88 (0, 0))] :: [(pb1, Obj.cells [(Value.int .i64 x1)].toArray 3 (0, 0))] :: [(pb2, Obj.cells [(Value.int .i64 x2)].toArray 3 (0, 0))] :: S) w := (ok.pk 3 [2, 0, 1] rfl (by decide))
        refine l_call E go_71 rfl (condition_parser_fail_w N r54 r56 r44 l46 r47 r48 r49 e59 hG ok) rfl rfl ?_
        rintro _ w ⟨⟨rfl, ok⟩, l60, r61, r62, r63⟩
        refine ⟨_, rfl, fun a E => ?_⟩
        refine wpList_nil ?_
        refine t_norm ?_
        refine wp_seq ?_
        refine c_region ?_
        refine l_val E ok (y_assign rfl) rfl rfl fun a E => ?_
        refine wpList_nil ?_
        refine t_norm ?_
        refine wp_ret ?_
        refine t_ret ?_
        have hret : condition_parser_number__128_R u m0 S pb0 pb1 pb2 x0 x1 x2 (0, r58) a w := ⟨ok, E.d, ⟨rv_t E rfl, trivial⟩, (show InR .i64 (0) by decide), l60, r61, r62, r63⟩
        obtain rfl := Option.some.inj hF
        exact fin _ _ hret
      replace hF := cond_f hc57 hF
      refine wp_skip ?_
      refine t_norm ?_
      refine wp_seq ?_
      refine c_region ?_
      refine l_val E ok (y_move rfl) rfl rfl fun a E => ?_
      refine l_val E ok (y_nilCheck rfl) rfl rfl fun a E => ?_
      refine l_val E ok (y_fieldAddr fo_88_1 rfl) rfl rfl fun a E => ?_
      refine l_val E ok (y_load one_3 rfl (Holds.own 2 rfl rfl)) rfl rfl fun a E => ?_
      refine l_val E ok (y_move rfl) rfl rfl fun a E => ?_
      refine l_val E ok (y_slen Tryz.underlying9 rfl) rfl rfl fun a E => ?_
      refine l_val E ok (y_addw rfl rfl) rfl rfl fun a E => ?_
      refine l_val E ok (y_nilCheck rfl) rfl rfl fun a E => ?_
      refine l_val E ok (y_fieldAddr fo_88_1 rfl) rfl rfl fun a E => ?_
      refine l_storeB E ok 2 rfl rfl rfl inf_3 rfl rfl ⟨rfl, trivial⟩ rfl rfl fun w ok => ?_
      refine wpList_nil ?_
      refine t_norm ?_
      refine wp_seq ?_
      refine c_region ?_
      refine l_val E ok (y_move rfl) rfl rfl fun a E => ?_
      refine l_val E ok (y_assign rfl) rfl rfl fun a E => ?_
      refine wpList_nil ?_
      refine t_norm ?_
      refine wp_ret ?_
      have hret : condition_parser_number__128_R u m0 S pb0 pb1 pb2 x0 x1 x2 (r51.1, (Parser.mk r44.s (IntKind.wrap .i64 (r44.at_ + (r11.1.length : Int))) r44.relations r44.e)) a w := ⟨(ok.pk 3 [2, 0, 1] rfl (by decide)), E.d, ⟨rv_t E rfl, trivial⟩, r53, l46, (InR.wrap _ _), r48, r49⟩
      obtain rfl := Option.some.inj hF
      exact fin _ _ hret
  replace hF := cond_f hc43 hF
  replace E := E.upd 19 hc43 rfl
  refine l_val E ok (y_move rfl) rfl rfl fun a E => ?_
  refine l_val E ok (y_slen Tryz.underlying9 rfl) rfl rfl fun a E => ?_
  refine l_val E ok (y_gtr rfl rfl) rfl rfl fun a E => ?_
  refine l_val E ok (y_pickF rfl rfl) rfl rfl fun a E => ?_
  refine l_val E ok (y_move rfl) rfl rfl fun a E => ?_
  refine bsplit (decide ((r11.1.length : Int) > 3)) (fun hc64 => ?_) (fun hc64 => ?_)
  · as_aux_lemma =>
      replace hF := cond_t hc64 hF
      replace E := E.upd 24 hc64 rfl
      refine l_skip E rfl rfl fun a E => ?_
      refine l_skip E rfl rfl fun a E => ?_
      refine l_skip E rfl rfl fun a E => ?_
      refine l_skip E rfl rfl fun a E => ?_
      refine l_skip E rfl rfl fun a E => ?_
      refine l_skip E rfl rfl fun a E => ?_
      refine l_skip E rfl rfl fun a E => ?_
      refine l_skip E rfl rfl fun a E => ?_
      refine l_val E ok (y_pickT rfl rfl) rfl rfl fun a E => ?_
      refine wpList_nil ?_
      refine t_norm ?_
      refine c_if E rfl (fun _ => ?_) (fun h => by cases h)
      refine c_region ?_
      refine l_val E ok (y_move rfl) rfl rfl fun a E => ?_
      obtain ⟨r65, e66, hF⟩ := bnd hF
      refine l_call E go_71 rfl (condition_parser_fail_w N 3 (show InR .i64 (3) by decide) r11.2 l14 r15 r16 r17 e66 hG ok) rfl rfl ?_
      rintro _ w ⟨⟨rfl, ok⟩, l67, r68, r69, r70⟩
      refine ⟨_, rfl, fun a E => ?_⟩
      refine wpList_nil ?_
      refine t_norm ?_
      refine wp_seq ?_
      refine wp_seq ?_
      refine c_region ?_
      refine l_val E ok (y_move rfl) rfl rfl fun a E => ?_
      refine l_val E ok (y_nilCheck rfl) rfl rfl fun a E => ?_
      refine l_val E ok (y_fieldAddr fo_88_3 rfl) rfl rfl fun a E => ?_
      refine l_val E ok (y_load one_25 rfl (Holds.own 0 rfl rfl)) rfl rfl fun a E => ?_
      refine l_val E ok (y_neq rfl rfl) rfl rfl fun a E => ?_
      refine wpList_nil ?_
      refine t_norm ?_
      refine c_if E rfl (fun hc71 => ?_) (fun hc71 => ?_)
      · replace hF := cond_t hc71 hF
        refine wp_seq ?_
        refine c_region ?_
        refine l_val E ok (y_assign rfl) rfl rfl fun a E => ?_
        refine wpList_nil ?_
        refine t_norm ?_
        refine wp_ret ?_
        refine t_ret ?_
        have hret : condition_parser_number__128_R u m0 S pb0 pb1 pb2 x0 x1 x2 (0, r65) a w := ⟨ok, E.d, ⟨rv_t E rfl, trivial⟩, (show InR .i64 (0) by decide), l67, r68, r69, r70⟩
        obtain rfl := Option.some.inj hF
        exact fin _ _ hret
      replace hF := cond_f hc71 hF
      refine wp_skip ?_
      refine t_norm ?_
      refine wp_seq ?_
      refine c_region ?_
      refine l_val E ok (y_move rfl) rfl rfl fun a E => ?_
      obtain ⟨r72, e73, hF⟩ := bnd hF
      refine l_call E go_127 rfl (strconv_Atoi_w N r11.1 l13 e73 hG ok) rfl rfl ?_
      rintro _ w ⟨⟨rfl, ok⟩, r74⟩
      refine ⟨_, rfl, fun a E => ?_⟩
      refine l_val E ok (y_move rfl) rfl rfl fun a E => ?_
      refine l_val E ok (y_extract rfl rfl) rfl rfl fun a E => ?_
      refine l_val E ok (y_extract rfl rfl) rfl rfl fun a E => ?_
      refine l_val E ok (y_assign rfl) rfl rfl fun a E => ?_
      refine l_val E ok (y_assign rfl) rfl rfl fun a E => ?_
      refine wpList_nil ?_
      refine t_norm ?_
      refine wp_seq ?_
      refine wp_seq ?_
      refine c_region ?_
      refine l_val E ok (y_move rfl) rfl rfl fun a E => ?_
      refine l_val E ok (y_move rfl) rfl rfl fun a E => ?_
      obtain ⟨r75, e76, hF⟩ := bnd hF
      replace ok : Ok u m0 ([(pb1, Obj.cells [(Value.int .i64 x1)].toArray 3 (0, 0))] :: [(pb2, Obj.cells [(Value.int .i64 x2)].toArray 3 (0, 0))] :: [(pb0, Obj.cells [(Value.string (bs r65.s)), (Value.int .i64 r65.at_), (Value.int .i64 r65.relations), (Value.int .i64 r65.e)].toArray 88 (0, 0))] :: S) w := (ok.pk 3 [1, 2, 0] rfl (by decide))
      refine l_callc E rfl go_128 rfl (condition_parser_span_1_w N r72.1 r74 x1 r5 x2 r6 e76 hG ok) rfl rfl ?_
      rintro _ w ⟨⟨rfl, ok⟩, r77⟩
      refine ⟨_, rfl, fun a E => ?_⟩
      refine l_val E ok (y_assign rfl) rfl rfl fun a E => ?_
      refine wpList_nil ?_
      refine t_norm ?_
      refine wp_seq ?_
      refine c_region ?_
      refine l_val E ok (y_move rfl) rfl rfl fun a E => ?_
      refine l_val E ok (y_neq rfl rfl) rfl rfl fun a E => ?_
      refine wpList_nil ?_
      refine t_norm ?_
      refine c_if E rfl (fun hc78 => ?_) (fun hc78 => ?_)
      · replace hF := cond_t hc78 hF
        refine wp_seq ?_
        refine c_region ?_
        refine l_val E ok (y_move rfl) rfl rfl fun a E => ?_
        refine l_val E ok (y_move rfl) rfl rfl fun a E => ?_
        obtain ⟨r79, e80, hF⟩ := bnd hF
        replace ok : Ok u m0 ([(pb0, Obj.cells [(Value.string (bs r65.s)), (Value.int .i64 r65.at_), (Value.int .i64 r65.relations), (Value.int .i64 r65.e)].toArray 88 (0, 0))] :: [(pb1, Obj.cells [(Value.int .i64 x1)].toArray 3 (0, 0))] :: [(pb2, Obj.cells [(Value.int .i64 x2)].toArray 3 (0, 0))] :: S) w := (ok.pk 3 [2, 0, 1] rfl (by decide))
        refine l_call E go_71 rfl (condition_parser_fail_w N r75 r77 r65 l67 r68 r69 r70 e80 hG ok) rfl rfl ?_
        rintro _ w ⟨⟨rfl, ok⟩, l81, r82, r83, r84⟩
        refine ⟨_, rfl, fun a E => ?_⟩
        refine wpList_nil ?_
        refine t_norm ?_
        refine wp_seq ?_
        refine c_region ?_
        refine l_val E ok (y_assign rfl) rfl rfl fun a E => ?_
        refine wpList_nil ?_
        refine t_norm ?_
        refine wp_ret ?_
        refine t_ret ?_
        have hret : condition_parser_number__128_R u m0 S pb0 pb1 pb2 x0 x1 x2 (0, r79) a w := ⟨ok, E.d, ⟨rv_t E rfl, trivial⟩, (show InR .i64 (0) by decide), l81, r82, r83, r84⟩
        obtain rfl := Option.some.inj hF
        exact fin _ _ hret
      replace hF := cond_f hc78 hF
      refine wp_skip ?_
      refine t_norm ?_
      refine wp_seq ?_
      refine c_region ?_
      refine l_val E ok (y_move rfl) rfl rfl fun a E => ?_
      refine l_val E ok (y_nilCheck rfl) rfl rfl fun a E => ?_
      refine l_val E ok (y_fieldAddr fo_88_1 rfl) rfl rfl fun a E => ?_
      refine l_val E ok (y_load one_3 rfl (Holds.own 2 rfl rfl)) rfl rfl fun a E => ?_
      refine l_val E ok (y_move rfl) rfl rfl fun a E => ?_
      refine l_val E ok (y_slen Tryz.underlying9 rfl) rfl rfl fun a E => ?_
      refine l_val E ok (y_addw rfl rfl) rfl rfl fun a E => ?_
      refine l_val E ok (y_nilCheck rfl) rfl rfl fun a E => ?_
      refine l_val E ok (y_fieldAddr fo_88_1 rfl) rfl rfl fun a E => ?_
      refine l_storeB E ok 2 rfl rfl rfl inf_3 rfl rfl ⟨rfl, trivial⟩ rfl rfl fun w ok => ?_
      refine wpList_nil ?_
      refine t_norm ?_
      refine wp_seq ?_
      refine c_region ?_
      refine l_val E ok (y_move rfl) rfl rfl fun a E => ?_
      refine l_val E ok (y_assign rfl) rfl rfl fun a E => ?_
      refine wpList_nil ?_
      refine t_norm ?_
      refine wp_ret ?_
      have hret : condition_parser_number__128_R u m0 S pb0 pb1 pb2 x0 x1 x2 (r72.1, (Parser.mk r65.s (IntKind.wrap .i64 (r65.at_ + (r11.1.length : Int))) r65.relations r65.e)) a w := ⟨(ok.pk 3 [2, 0, 1] rfl (by decide)), E.d, ⟨rv_t E rfl, trivial⟩, r74, l67, (InR.wrap _ _), r69, r70⟩
      obtain rfl := Option.some.inj hF
      exact fin _ _ hret
  replace hF := cond_f hc64 hF
  replace E := E.upd 24 hc64 rfl
  refine l_val E ok (y_move rfl) rfl rfl fun a E => ?_
  refine l_val E ok (y_slen Tryz.underlying9 rfl) rfl rfl fun a E => ?_
  refine l_val E ok (y_gtr rfl rfl) rfl rfl fun a E => ?_
  refine l_val E ok (y_move rfl) rfl rfl fun a E => ?_
  refine bsplit (decide ((r11.1.length : Int) > 1)) (fun hc85 => ?_) (fun hc85 => ?_)
  rotate_left
  · as_aux_lemma =>
      replace hF := cond_f hc85 hF
      replace E := E.upd 28 hc85 rfl
      refine l_skip E rfl rfl fun a E => ?_
      refine l_skip E rfl rfl fun a E => ?_
      refine l_skip E rfl rfl fun a E => ?_
      refine l_val E ok (y_pickF rfl rfl) rfl rfl fun a E => ?_
      refine l_val E ok (y_pickF rfl rfl) rfl rfl fun a E => ?_
      refine wpList_nil ?_
      refine t_norm ?_
      refine c_if E rfl (fun h => by cases h) (fun _ => ?_)
      refine wp_skip ?_
      refine t_norm ?_
      refine wp_seq ?_
      refine wp_seq ?_
      refine c_region ?_
      refine l_val E ok (y_move rfl) rfl rfl fun a E => ?_
      refine l_val E ok (y_nilCheck rfl) rfl rfl fun a E => ?_
      refine l_val E ok (y_fieldAddr fo_88_3 rfl) rfl rfl fun a E => ?_
      refine l_val E ok (y_load one_25 rfl (Holds.own 0 rfl rfl)) rfl rfl fun a E => ?_
      refine l_val E ok (y_neq rfl rfl) rfl rfl fun a E => ?_
      refine wpList_nil ?_
      refine t_norm ?_
      refine c_if E rfl (fun hc118 => ?_) (fun hc118 => ?_)
      · replace hF := cond_t hc118 hF
        refine wp_seq ?_
        refine c_region ?_
        refine l_val E ok (y_assign rfl) rfl rfl fun a E => ?_
        refine wpList_nil ?_
        refine t_norm ?_
        refine wp_ret ?_
        refine t_ret ?_
        have hret : condition_parser_number__128_R u m0 S pb0 pb1 pb2 x0 x1 x2 (0, r11.2) a w := ⟨ok, E.d, ⟨rv_t E rfl, trivial⟩, (show InR .i64 (0) by decide), l14, r15, r16, r17⟩
        obtain rfl := Option.some.inj hF
        exact fin _ _ hret
      replace hF := cond_f hc118 hF
      refine wp_skip ?_
      refine t_norm ?_
      refine wp_seq ?_
      refine c_region ?_
      refine l_val E ok (y_move rfl) rfl rfl fun a E => ?_
      obtain ⟨r119, e120, hF⟩ := bnd hF
      refine l_call E go_127 rfl (strconv_Atoi_w N r11.1 l13 e120 hG ok) rfl rfl ?_
      rintro _ w ⟨⟨rfl, ok⟩, r121⟩
      refine ⟨_, rfl, fun a E => ?_⟩
      refine l_val E ok (y_move rfl) rfl rfl fun a E => ?_
      refine l_val E ok (y_extract rfl rfl) rfl rfl fun a E => ?_
      refine l_val E ok (y_extract rfl rfl) rfl rfl fun a E => ?_
      refine l_val E ok (y_assign rfl) rfl rfl fun a E => ?_
      refine l_val E ok (y_assign rfl) rfl rfl fun a E => ?_
      refine wpList_nil ?_
      refine t_norm ?_
      refine wp_seq ?_
      refine wp_seq ?_
      refine c_region ?_
      refine l_val E ok (y_move rfl) rfl rfl fun a E => ?_
      refine l_val E ok (y_move rfl) rfl rfl fun a E => ?_
      obtain ⟨r122, e123, hF⟩ := bnd hF
      replace ok : Ok u m0 ([(pb1, Obj.cells [(Value.int .i64 x1)].toArray 3 (0, 0))] :: [(pb2, Obj.cells [(Value.int .i64 x2)].toArray 3 (0, 0))] :: [(pb0, Obj.cells [(Value.string (bs r11.2.s)), (Value.int .i64 r11.2.at_), (Value.int .i64 r11.2.relations), (Value.int .i64 r11.2.e)].toArray 88 (0, 0))] :: S) w := (ok.pk 3 [1, 2, 0] rfl (by decide))
      refine l_callc E rfl go_128 rfl (condition_parser_span_1_w N r119.1 r121 x1 r5 x2 r6 e123 hG ok) rfl rfl ?_
      rintro _ w ⟨⟨rfl, ok⟩, r124⟩
      refine ⟨_, rfl, fun a E => ?_⟩
      refine l_val E ok (y_assign rfl) rfl rfl fun a E => ?_
      refine wpList_nil ?_
      refine t_norm ?_
      refine wp_seq ?_
      refine c_region ?_
      refine l_val E ok (y_move rfl) rfl rfl fun a E => ?_
      refine l_val E ok (y_neq rfl rfl) rfl rfl fun a E => ?_
      refine wpList_nil ?_
      refine t_norm ?_
      refine c_if E rfl (fun hc125 => ?_) (fun hc125 => ?_)
      · replace hF := cond_t hc125 hF
        refine wp_seq ?_
        refine c_region ?_
        refine l_val E ok (y_move rfl) rfl rfl fun a E => ?_
        refine l_val E ok (y_move rfl) rfl rfl fun a E => ?_
        obtain ⟨r126, e127, hF⟩ := bnd hF
        replace ok : Ok u m0 ([(pb0, Obj.cells [(Value.string (bs r11.2.s)), (Value.int .i64 r11.2.at_), (Value.int .i64 r11.2.relations), (Value.int .i64 r11.2.e)].toArray 88 (0, 0))] :: [(pb1, Obj.cells [(Value.int .i64 x1)].toArray 3 (0, 0))] :: [(pb2, Obj.cells [(Value.int .i64 x2)].toArray 3 (0, 0))] :: S) w := (ok.pk 3 [2, 0, 1] rfl (by decide))
        refine l_call E go_71 rfl (condition_parser_fail_w N r122 r124 r11.2 l14 r15 r16 r17 e127 hG ok) rfl rfl ?_
        rintro _ w ⟨⟨rfl, ok⟩, l128, r129, r130, r131⟩
        refine ⟨_, rfl, fun a E => ?_⟩
        refine wpList_nil ?_
        refine t_norm ?_
        refine wp_seq ?_
        refine c_region ?_
        refine l_val E ok (y_assign rfl) rfl rfl fun a E => ?_
        refine wpList_nil ?_
        refine t_norm ?_
        refine wp_ret ?_
        refine t_ret ?_
        have hret : condition_parser_number__128_R u m0 S pb0 pb1 pb2 x0 x1 x2 (0, r126) a w := ⟨ok, E.d, ⟨rv_t E rfl, trivial⟩, (show InR .i64 (0) by decide), l128, r129, r130, r131⟩
        obtain rfl := Option.some.inj hF
        exact fin _ _ hret
      replace hF := cond_f hc125 hF
      refine wp_skip ?_
      refine t_norm ?_
      refine wp_seq ?_
      refine c_region ?_
      refine l_val E ok (y_move rfl) rfl rfl fun a E => ?_
      refine l_val E ok (y_nilCheck rfl) rfl rfl fun a E => ?_
      refine l_val E ok (y_fieldAddr fo_88_1 rfl) rfl rfl fun a E => ?_
      refine l_val E ok (y_load one_3 rfl (Holds.own 2 rfl rfl)) rfl rfl fun a E => ?_
      refine l_val E ok (y_move rfl) rfl rfl fun a E => ?_
      refine l_val E ok (y_slen Tryz.underlying9 rfl) rfl rfl fun a E => ?_
      refine l_val E ok (y_addw rfl rfl) rfl rfl fun a E => ?_
      refine l_val E ok (y_nilCheck rfl) rfl rfl fun a E => ?_
      refine l_val E ok (y_fieldAddr fo_88_1 rfl) rfl rfl fun a E => ?_
      refine l_storeB E ok 2 rfl rfl rfl inf_3 rfl rfl ⟨rfl, trivial⟩ rfl rfl fun w ok => ?_
      refine wpList_nil ?_
      refine t_norm ?_
      refine wp_seq ?_
      refine c_region ?_
      refine l_val E ok (y_move rfl) rfl rfl fun a E => ?_
      refine l_val E ok (y_assign rfl) rfl rfl fun a E => ?_
      refine wpList_nil ?_
      refine t_norm ?_
      refine wp_ret ?_
      have hret : condition_parser_number__128_R u m0 S pb0 pb1 pb2 x0 x1 x2 (r119.1, (Parser.mk r11.2.s (IntKind.wrap .i64 (r11.2.at_ + (r11.1.length : Int))) r11.2.relations r11.2.e)) a w := ⟨(ok.pk 3 [2, 0, 1] rfl (by decide)), E.d, ⟨rv_t E rfl, trivial⟩, r121, l14, (InR.wrap _ _), r16, r17⟩
      obtain rfl := Option.some.inj hF
      exact fin _ _ hret
  replace hF := cond_t hc85 hF
  replace E := E.upd 28 hc85 rfl
  refine l_val E ok (y_move rfl) rfl rfl fun a E => ?_
  obtain ⟨c86, e87, hF⟩ := bnd hF
  refine l_val E ok (y_index Tryz.underlying9 rfl rfl e87) rfl rfl fun a E => ?_
  refine l_val E ok (y_eql rfl rfl) rfl rfl fun a E => ?_
  refine l_val E ok (y_pickT rfl rfl) rfl rfl fun a E => ?_
  refine l_val E ok (y_pickF rfl rfl) rfl rfl fun a E => ?_
  refine wpList_nil ?_
  refine t_norm ?_
  obtain ⟨o88, hJ, hF⟩ := bnd hF
  refine c_mono (Q' := fun e a w => e = .normal ∧ Ok u m0 ([(pb0, Obj.cells [(Value.string (bs o88.s)), (Value.int .i64 o88.at_), (Value.int .i64 o88.relations), (Value.int .i64 o88.e)].toArray 88 (0, 0))] :: [(pb1, Obj.cells [(Value.int .i64 x1)].toArray 3 (0, 0))] :: [(pb2, Obj.cells [(Value.int .i64 x2)].toArray 3 (0, 0))] :: S) w ∧ Env 64 a [(0, (Value.pointer (some ⟨pb0, 0, none⟩))), (1, (Value.func (.func 128) #[] #[.pointer (some ⟨pb1, 0, none⟩), .pointer (some ⟨pb2, 0, none⟩)])), (5, (Value.string (bs r11.1)))] ∧ o88.s.length ≤ LIMS ∧ InR .i64 o88.at_ ∧ InR .i64 o88.relations ∧ InR .i64 o88.e) ?_ ?_
  · replace hF := hJ
    clear hJ
    refine c_if E rfl (fun hc93 => ?_) (fun hc93 => ?_)
    rotate_left
    · replace hF := cond_f hc93 hF
      refine wp_skip ?_
      obtain rfl := Option.some.inj hF
      exact ⟨rfl, ⟨ok, E.keep [0, 1, 5], l14, r15, r16, r17⟩⟩
    replace hF := cond_t hc93 hF
    refine c_region ?_
    refine l_val E ok (y_move rfl) rfl rfl fun a E => ?_
    obtain ⟨r94, e95, hF⟩ := bnd hF
    refine l_call E go_71 rfl (condition_parser_fail_w N 3 (show InR .i64 (3) by decide) r11.2 l14 r15 r16 r17 e95 hG ok) rfl rfl ?_
    rintro _ w ⟨⟨rfl, ok⟩, l96, r97, r98, r99⟩
    refine ⟨_, rfl, fun a E => ?_⟩
    refine wpList_nil ?_
    obtain rfl := Option.some.inj hF
    exact ⟨rfl, ⟨ok, E.keep [0, 1, 5], l96, r97, r98, r99⟩⟩
  clear hJ
  intro e a w hO
  obtain ⟨rfl, ok, E, l100, r101, r102, r103⟩ := hO
  refine t_norm ?_
  refine wp_seq ?_
  refine wp_seq ?_
  refine c_region ?_
  refine l_val E ok (y_move rfl) rfl rfl fun a E => ?_
  refine l_val E ok (y_nilCheck rfl) rfl rfl fun a E => ?_
  refine l_val E ok (y_fieldAddr fo_88_3 rfl) rfl rfl fun a E => ?_
  refine l_val E ok (y_load one_25 rfl (Holds.own 0 rfl rfl)) rfl rfl fun a E => ?_
  refine l_val E ok (y_neq rfl rfl) rfl rfl fun a E => ?_
  refine wpList_nil ?_
  refine t_norm ?_
  refine c_if E rfl (fun hc104 => ?_) (fun hc104 => ?_)
  · replace hF := cond_t hc104 hF
    refine wp_seq ?_
    refine c_region ?_
    refine l_val E ok (y_assign rfl) rfl rfl fun a E => ?_
    refine wpList_nil ?_
    refine t_norm ?_
    refine wp_ret ?_
    refine t_ret ?_
    have hret : condition_parser_number__128_R u m0 S pb0 pb1 pb2 x0 x1 x2 (0, o88) a w := ⟨ok, E.d, ⟨rv_t E rfl, trivial⟩, (show InR .i64 (0) by decide), l100, r101, r102, r103⟩
    obtain rfl := Option.some.inj hF
    exact fin _ _ hret
  replace hF := cond_f hc104 hF
  refine wp_skip ?_
  refine t_norm ?_
  refine wp_seq ?_
  refine c_region ?_
  refine l_val E ok (y_move rfl) rfl rfl fun a E => ?_
  obtain ⟨r105, e106, hF⟩ := bnd hF
  refine l_call E go_127 rfl (strconv_Atoi_w N r11.1 l13 e106 hG ok) rfl rfl ?_
  rintro _ w ⟨⟨rfl, ok⟩, r107⟩
  refine ⟨_, rfl, fun a E => ?_⟩
  refine l_val E ok (y_move rfl) rfl rfl fun a E => ?_
  refine l_val E ok (y_extract rfl rfl) rfl rfl fun a E => ?_
  refine l_val E ok (y_extract rfl rfl) rfl rfl fun a E => ?_
  refine l_val E ok (y_assign rfl) rfl rfl fun a E => ?_
  refine l_val E ok (y_assign rfl) rfl rfl fun a E => ?_
  refine wpList_nil ?_
  refine t_norm ?_
  refine wp_seq ?_
  refine wp_seq ?_
  refine c_region ?_
  refine l_val E ok (y_move rfl) rfl rfl fun a E => ?_
  refine l_val E ok (y_move rfl) rfl rfl fun a E => ?_
  obtain ⟨r108, e109, hF⟩ := bnd hF
  replace ok : Ok u m0 ([(pb1, Obj.cells [(Value.int .i64 x1)].toArray 3 (0, 0))] :: [(pb2, Obj.cells [(Value.int .i64 x2)].toArray 3 (0, 0))] :: [(pb0, Obj.cells [(Value.string (bs o88.s)), (Value.int .i64 o88.at_), (Value.int .i64 o88.relations), (Value.int .i64 o88.e)].toArray 88 (0, 0))] :: S) w := (ok.pk 3 [1, 2, 0] rfl (by decide))
  refine l_callc E rfl go_128 rfl (condition_parser_span_1_w N r105.1 r107 x1 r5 x2 r6 e109 hG ok) rfl rfl ?_
  rintro _ w ⟨⟨rfl, ok⟩, r110⟩
  refine ⟨_, rfl, fun a E => ?_⟩
  refine l_val E ok (y_assign rfl) rfl rfl fun a E => ?_
  refine wpList_nil ?_
  refine t_norm ?_
  refine wp_seq ?_
  refine c_region ?_
  refine l_val E ok (y_move rfl) rfl rfl fun a E => ?_
  refine l_val E ok (y_neq rfl rfl) rfl rfl fun a E => ?_
  refine wpList_nil ?_
  refine t_norm ?_
  refine c_if E rfl (fun hc111 => ?_) (fun hc111 => ?_)
  · replace hF := cond_t hc111 hF
    refine wp_seq ?_
    refine c_region ?_
    refine l_val E ok (y_move rfl) rfl rfl fun a E => ?_
    refine l_val E ok (y_move rfl) rfl rfl fun a E => ?_
    obtain ⟨r112, e113, hF⟩ := bnd hF
    replace ok : Ok u m0 ([(pb0, Obj.cells [(Value.string (bs o88.s)), (Value.int .i64 o88.at_), (Value.int .i64 o88.relations), (Value.int .i64 o88.e)].toArray 88 (0, 0))] :: [(pb1, Obj.cells [(Value.int .i64 x1)].toArray 3 (0, 0))] :: [(pb2, Obj.cells [(Value.int .i64 x2)].toArray 3 (0, 0))] :: S) w := (ok.pk 3 [2, 0, 1] rfl (by decide))
    refine l_call E go_71 rfl (condition_parser_fail_w N r108 r110 o88 l100 r101 r102 r103 e113 hG ok) rfl rfl ?_
    rintro _ w ⟨⟨rfl, ok⟩, l114, r115, r116, r117⟩
    refine ⟨_, rfl, fun a E => ?_⟩
    refine wpList_nil ?_
    refine t_norm ?_
    refine wp_seq ?_
    refine c_region ?_
    refine l_val E ok (y_assign rfl) rfl rfl fun a E => ?_
    refine wpList_nil ?_
    refine t_norm ?_
    refine wp_ret ?_
    refine t_ret ?_
    have hret : condition_parser_number__128_R u m0 S pb0 pb1 pb2 x0 x1 x2 (0, r112) a w := ⟨ok, E.d, ⟨rv_t E rfl, trivial⟩, (show InR .i64 (0) by decide), l114, r115, r116, r117⟩
    obtain rfl := Option.some.inj hF
    exact fin _ _ hret
  replace hF := cond_f hc111 hF
  refine wp_skip ?_
  refine t_norm ?_
  refine wp_seq ?_
  refine c_region ?_
  refine l_val E ok (y_move rfl) rfl rfl fun a E => ?_
  refine l_val E ok (y_nilCheck rfl) rfl rfl fun a E => ?_
  refine l_val E ok (y_fieldAddr fo_88_1 rfl) rfl rfl fun a E => ?_
  refine l_val E ok (y_load one_3 rfl (Holds.own 2 rfl rfl)) rfl rfl fun a E => ?_
  refine l_val E ok (y_move rfl) rfl rfl fun a E => ?_
  refine l_val E ok (y_slen Tryz.underlying9 rfl) rfl rfl fun a E => ?_
  refine l_val E ok (y_addw rfl rfl) rfl rfl fun a E => ?_
  refine l_val E ok (y_nilCheck rfl) rfl rfl fun a E => ?_
  refine l_val E ok (y_fieldAddr fo_88_1 rfl) rfl rfl fun a E => ?_
  refine l_storeB E ok 2 rfl rfl rfl inf_3 rfl rfl ⟨rfl, trivial⟩ rfl rfl fun w ok => ?_
  refine wpList_nil ?_
  refine t_norm ?_
  refine wp_seq ?_
  refine c_region ?_
  refine l_val E ok (y_move rfl) rfl rfl fun a E => ?_
  refine l_val E ok (y_assign rfl) rfl rfl fun a E => ?_
  refine wpList_nil ?_
  refine t_norm ?_
  refine wp_ret ?_
  have hret : condition_parser_number__128_R u m0 S pb0 pb1 pb2 x0 x1 x2 (r105.1, (Parser.mk o88.s (IntKind.wrap .i64 (o88.at_ + (r11.1.length : Int))) o88.relations o88.e)) a w := ⟨(ok.pk 3 [2, 0, 1] rfl (by decide)), E.d, ⟨rv_t E rfl, trivial⟩, r107, l100, (InR.wrap _ _), r102, r103⟩
  obtain rfl := Option.some.inj hF
  exact fin _ _ hret

def condition_parser_span_2_R (u : World) (m0 : Mem) (S : Segs) (pb0 : Nat) (pb1 : Nat) (x0 : Int) (x1 : Span) (r : Int) (a : Act) (w : World) : Prop :=
  Ok u m0 ([(pb0, Obj.cells [(Value.int .i64 x0)].toArray 3 (0, 0))] :: [(pb1, Obj.cells [(Value.int .i64 x1.From), (Value.int .i64 x1.To)].toArray 49 (0, 0))] :: S) w ∧ a.defers = [] ∧ RVs Tryz.prog a w [.t 4 (.int .i64 r)] ∧ InR .i64 r
set_option maxHeartbeats 4000000 in
set_option maxRecDepth 100000 in
theorem condition_parser_span_2_w {u : World} {m0 : Mem} {S : Segs} {w : World} (N : Nat) (n_0 : Int) (rn_0 : InR .i64 n_0) {pb0 : Nat} (x0 : Int) (r1 : InR .i64 x0) {pb1 : Nat} (x1 : Span) (r2 : InR .i64 x1.From) (r3 : InR .i64 x1.To) {r : Int} (hF : condition_parser_span_2 N n_0 x0 x1 = some r) (hG : Glob u) (ok : Ok u m0 ([(pb0, Obj.cells [(Value.int .i64 x0)].toArray 3 (0, 0))] :: [(pb1, Obj.cells [(Value.int .i64 x1.From), (Value.int .i64 x1.To)].toArray 49 (0, 0))] :: S) w) :
    Calls Tryz.prog 129 [Value.int .i64 n_0, Value.pointer (some ⟨pb0, 0, none⟩), Value.pointer (some ⟨pb1, 0, none⟩)].toArray w fun e w' => (e = .returned (.int .i64 r) ∧ Ok u m0 ([(pb0, Obj.cells [(Value.int .i64 x0)].toArray 3 (0, 0))] :: [(pb1, Obj.cells [(Value.int .i64 x1.From), (Value.int .i64 x1.To)].toArray 49 (0, 0))] :: S) w') ∧ InR .i64 r := by
  have hb0 := ok.base
  have le_m0 := Mem.le.refl m0
  unfold condition_parser_span_2 at hF
  have fin : ∀ a w, condition_parser_span_2_R u m0 S pb0 pb1 x0 x1 r a w → bodyPost Tryz.prog Tryz.f129 (fun e w' => (e = .returned (.int .i64 r) ∧ Ok u m0 ([(pb0, Obj.cells [(Value.int .i64 x0)].toArray 3 (0, 0))] :: [(pb1, Obj.cells [(Value.int .i64 x1.From), (Value.int .i64 x1.To)].toArray 49 (0, 0))] :: S) w') ∧ InR .i64 r) .ret a w := by
    intro a w h
    obtain ⟨ok, hd, hrv, h0⟩ := h
    exact c_ret2 [.t 4 (.int .i64 r)] hd rfl hrv ⟨⟨rfl, ok⟩, h0⟩
  refine enter Tryz.func129 rfl rfl rfl fun a E => ?_
  refine wp_seq ?_
  refine c_region ?_
  refine l_val E ok (y_assign rfl) rfl rfl fun a E => ?_
  refine wpList_nil ?_
  refine t_norm ?_
  refine wp_seq ?_
  refine wp_seq ?_
  refine c_region ?_
  refine l_val E ok (y_move rfl) rfl rfl fun a E => ?_
  refine l_val E ok (y_load one_3 rfl (Holds.own 0 rfl rfl)) rfl rfl fun a E => ?_
  obtain ⟨r4, e5, hF⟩ := bnd hF
  refine l_call E go_81 rfl (condition_greatest_w N x0 r1 e5 hG ok) rfl rfl ?_
  rintro _ w ⟨⟨rfl, ok⟩, r6⟩
  refine ⟨_, rfl, fun a E => ?_⟩
  refine l_val E ok (y_gtr rfl rfl) rfl rfl fun a E => ?_
  refine l_val E ok (y_move rfl) rfl rfl fun a E => ?_
  refine bsplit (decide (n_0 > r4)) (fun hc7 => ?_) (fun hc7 => ?_)
  · replace hF := cond_t hc7 hF
    replace E := E.upd 9 hc7 rfl
    refine l_skip E rfl rfl fun a E => ?_
    refine l_skip E rfl rfl fun a E => ?_
    refine l_skip E rfl rfl fun a E => ?_
    refine l_skip E rfl rfl fun a E => ?_
    refine l_val E ok (y_pickT rfl rfl) rfl rfl fun a E => ?_
    refine wpList_nil ?_
    refine t_norm ?_
    refine c_if E rfl (fun _ => ?_) (fun h => by cases h)
    refine wp_seq ?_
    refine c_region ?_
    refine l_val E ok (y_assign rfl) rfl rfl fun a E => ?_
    refine wpList_nil ?_
    refine t_norm ?_
    refine wp_ret ?_
    refine t_ret ?_
    have hret : condition_parser_span_2_R u m0 S pb0 pb1 x0 x1 2 a w := ⟨ok, E.d, ⟨rv_t E rfl, trivial⟩, (show InR .i64 (2) by decide)⟩
    obtain rfl := Option.some.inj hF
    exact fin _ _ hret
  replace hF := cond_f hc7 hF
  replace E := E.upd 9 hc7 rfl
  refine l_val E ok (y_move rfl) rfl rfl fun a E => ?_
  refine l_val E ok (y_fieldAddr fo_49_0 rfl) rfl rfl fun a E => ?_
  refine l_val E ok (y_load one_3 rfl (Holds.own 1 rfl rfl)) rfl rfl fun a E => ?_
  refine l_val E ok (y_lss rfl rfl) rfl rfl fun a E => ?_
  refine l_val E ok (y_pickF rfl rfl) rfl rfl fun a E => ?_
  refine wpList_nil ?_
  refine t_norm ?_
  refine c_if E rfl (fun hc8 => ?_) (fun hc8 => ?_)
  · replace hF := cond_t hc8 hF
    refine wp_seq ?_
    refine c_region ?_
    refine l_val E ok (y_assign rfl) rfl rfl fun a E => ?_
    refine wpList_nil ?_
    refine t_norm ?_
    refine wp_ret ?_
    refine t_ret ?_
    have hret : condition_parser_span_2_R u m0 S pb0 pb1 x0 x1 2 a w := ⟨ok, E.d, ⟨rv_t E rfl, trivial⟩, (show InR .i64 (2) by decide)⟩
    obtain rfl := Option.some.inj hF
    exact fin _ _ hret
  replace hF := cond_f hc8 hF
  refine wp_skip ?_
  refine t_norm ?_
  refine wp_seq ?_
  refine c_region ?_
  refine l_val E ok (y_assign rfl) rfl rfl fun a E => ?_
  refine wpList_nil ?_
  refine t_norm ?_
  refine wp_ret ?_
  have hret : condition_parser_span_2_R u m0 S pb0 pb1 x0 x1 0 a w := ⟨ok, E.d, ⟨rv_t E rfl, trivial⟩, (show InR .i64 (0) by decide)⟩
  obtain rfl := Option.some.inj hF
  exact fin _ _ hret

def condition_parser_number__129_R (u : World) (m0 : Mem) (S : Segs) (pb0 : Nat) (pb1 : Nat) (pb2 : Nat) (x0 : Parser) (x1 : Int) (x2 : Span) (r : Int × Parser) (a : Act) (w : World) : Prop :=
  Ok u m0 ([(pb0, Obj.cells [(Value.string (bs r.2.s)), (Value.int .i64 r.2.at_), (Value.int .i64 r.2.relations), (Value.int .i64 r.2.e)].toArray 88 (0, 0))] :: [(pb1, Obj.cells [(Value.int .i64 x1)].toArray 3 (0, 0))] :: [(pb2, Obj.cells [(Value.int .i64 x2.From), (Value.int .i64 x2.To)].toArray 49 (0, 0))] :: S) w ∧ a.defers = [] ∧ RVs Tryz.prog a w [.t 4 (.int .i64 r.1)] ∧ InR .i64 r.1 ∧ r.2.s.length ≤ LIMS ∧ InR .i64 r.2.at_ ∧ InR .i64 r.2.relations ∧ InR .i64 r.2.e
set_option maxHeartbeats 4000000 in
set_option maxRecDepth 100000 in
theorem condition_parser_number__129_w {u : World} {m0 : Mem} {S : Segs} {w : World} (N : Nat) {pb0 : Nat} (x0 : Parser) (l1 : x0.s.length ≤ LIMS) (r2 : InR .i64 x0.at_) (r3 : InR .i64 x0.relations) (r4 : InR .i64 x0.e) {pb1 : Nat} (x1 : Int) (r5 : InR .i64 x1) {pb2 : Nat} (x2 : Span) (r6 : InR .i64 x2.From) (r7 : InR .i64 x2.To) {r : Int × Parser} (hF : condition_parser_number__129 N x0 x1 x2 = some r) (hG : Glob u) (ok : Ok u m0 ([(pb0, Obj.cells [(Value.string (bs x0.s)), (Value.int .i64 x0.at_), (Value.int .i64 x0.relations), (Value.int .i64 x0.e)].toArray 88 (0, 0))] :: [(pb1, Obj.cells [(Value.int .i64 x1)].toArray 3 (0, 0))] :: [(pb2, Obj.cells [(Value.int .i64 x2.From), (Value.int .i64 x2.To)].toArray 49 (0, 0))] :: S) w) :
    Calls Tryz.prog 97 [Value.pointer (some ⟨pb0, 0, none⟩), Value.func (.func 129) #[] #[.pointer (some ⟨pb1, 0, none⟩), .pointer (some ⟨pb2, 0, none⟩)]].toArray w fun e w' => (e = .returned (.int .i64 r.1) ∧ Ok u m0 ([(pb0, Obj.cells [(Value.string (bs r.2.s)), (Value.int .i64 r.2.at_), (Value.int .i64 r.2.relations), (Value.int .i64 r.2.e)].toArray 88 (0, 0))] :: [(pb1, Obj.cells [(Value.int .i64 x1)].toArray 3 (0, 0))] :: [(pb2, Obj.cells [(Value.int .i64 x2.From), (Value.int .i64 x2.To)].toArray 49 (0, 0))] :: S) w') ∧ InR .i64 r.1 ∧ r.2.s.length ≤ LIMS ∧ InR .i64 r.2.at_ ∧ InR .i64 r.2.relations ∧ InR .i64 r.2.e := by
  have hb0 := ok.base
  have le_m0 := Mem.le.refl m0
  unfold condition_parser_number__129 at hF
  have fin : ∀ a w, condition_parser_number__129_R u m0 S pb0 pb1 pb2 x0 x1 x2 r a w → bodyPost Tryz.prog Tryz.f97 (fun e w' => (e = .returned (.int .i64 r.1) ∧ Ok u m0 ([(pb0, Obj.cells [(Value.string (bs r.2.s)), (Value.int .i64 r.2.at_), (Value.int .i64 r.2.relations), (Value.int .i64 r.2.e)].toArray 88 (0, 0))] :: [(pb1, Obj.cells [(Value.int .i64 x1)].toArray 3 (0, 0))] :: [(pb2, Obj.cells [(Value.int .i64 x2.From), (Value.int .i64 x2.To)].toArray 49 (0, 0))] :: S) w') ∧ InR .i64 r.1 ∧ r.2.s.length ≤ LIMS ∧ InR .i64 r.2.at_ ∧ InR .i64 r.2.relations ∧ InR .i64 r.2.e) .ret a w := by
    intro a w h
    obtain ⟨ok, hd, hrv, h0, h1, h2, h3, h4⟩ := h
    exact c_ret2 [.t 4 (.int .i64 r.1)] hd rfl hrv ⟨⟨rfl, ok⟩, h0, h1, h2, h3, h4⟩
  refine enter Tryz.func97 rfl rfl rfl fun a E => ?_
  refine wp_seq ?_
  refine c_region ?_
  refine l_val E ok (y_assign rfl) rfl rfl fun a E => ?_
  refine wpList_nil ?_
  refine t_norm ?_
  refine wp_seq ?_
  refine c_region ?_
  refine l_val E ok (y_move rfl) rfl rfl fun a E => ?_
  obtain ⟨r12, e13, hF⟩ := bnd hF
  refine l_call E go_94 rfl (condition_parser_peek_w N x0 l1 r2 r3 r4 e13 hG ok) rfl rfl ?_
  rintro _ w ⟨⟨rfl, ok⟩, l14, l15, r16, r17, r18⟩
  refine ⟨_, rfl, fun a E => ?_⟩
  refine l_val E ok (y_assign rfl) rfl rfl fun a E => ?_
  refine wpList_nil ?_
  refine t_norm ?_
  refine wp_seq ?_
  refine wp_seq ?_
  refine c_region ?_
  refine l_val E ok (y_move rfl) rfl rfl fun a E => ?_
  refine l_val E ok (y_seql rfl rfl) rfl rfl fun a E => ?_
  refine l_val E ok (y_move rfl) rfl rfl fun a E => ?_
  refine bsplit (r12.1 == ([])) (fun hc19 => ?_) (fun hc19 => ?_)
  · as_aux_lemma =>
      replace hF := cond_t hc19 hF
      replace E := E.upd 13 hc19 rfl
      refine l_skip E rfl rfl fun a E => ?_
      refine l_skip E rfl rfl fun a E => ?_
      refine l_skip E rfl rfl fun a E => ?_
      refine l_skip E rfl rfl fun a E => ?_
      refine l_val E ok (y_pickT rfl rfl) rfl rfl fun a E => ?_
      refine l_val E ok (y_move rfl) rfl rfl fun a E => ?_
      refine l_skip E rfl rfl fun a E => ?_
      refine l_skip E rfl rfl fun a E => ?_
      refine l_skip E rfl rfl fun a E => ?_
      refine l_val E ok (y_pickT rfl rfl) rfl rfl fun a E => ?_
      refine l_val E ok (y_move rfl) rfl rfl fun a E => ?_
      refine l_skip E rfl rfl fun a E => ?_
      refine l_skip E rfl rfl fun a E => ?_
      refine l_skip E rfl rfl fun a E => ?_
      refine l_skip E rfl rfl fun a E => ?_
      refine l_skip E rfl rfl fun a E => ?_
      refine l_skip E rfl rfl fun a E => ?_
      refine l_skip E rfl rfl fun a E => ?_
      refine l_skip E rfl rfl fun a E => ?_
      refine l_val E ok (y_pickT rfl rfl) rfl rfl fun a E => ?_
      refine wpList_nil ?_
      refine t_norm ?_
      refine c_if E rfl (fun _ => ?_) (fun h => by cases h)
      refine c_region ?_
      refine l_val E ok (y_move rfl) rfl rfl fun a E => ?_
      obtain ⟨r20, e21, hF⟩ := bnd hF
      refine l_call E go_71 rfl (condition_parser_fail_w N 3 (show InR .i64 (3) by decide) r12.2 l15 r16 r17 r18 e21 hG ok) rfl rfl ?_
      rintro _ w ⟨⟨rfl, ok⟩, l22, r23, r24, r25⟩
      refine ⟨_, rfl, fun a E => ?_⟩
      refine wpList_nil ?_
      refine t_norm ?_
      refine wp_seq ?_
      refine wp_seq ?_
      refine c_region ?_
      refine l_val E ok (y_move rfl) rfl rfl fun a E => ?_
      refine l_val E ok (y_nilCheck rfl) rfl rfl fun a E => ?_
      refine l_val E ok (y_fieldAddr fo_88_3 rfl) rfl rfl fun a E => ?_
      refine l_val E ok (y_load one_25 rfl (Holds.own 0 rfl rfl)) rfl rfl fun a E => ?_
      refine l_val E ok (y_neq rfl rfl) rfl rfl fun a E => ?_
      refine wpList_nil ?_
      refine t_norm ?_
      refine c_if E rfl (fun hc26 => ?_) (fun hc26 => ?_)
      · replace hF := cond_t hc26 hF
        refine wp_seq ?_
        refine c_region ?_
        refine l_val E ok (y_assign rfl) rfl rfl fun a E => ?_
        refine wpList_nil ?_
        refine t_norm ?_
        refine wp_ret ?_
        refine t_ret ?_
        have hret : condition_parser_number__129_R u m0 S pb0 pb1 pb2 x0 x1 x2 (0, r20) a w := ⟨ok, E.d, ⟨rv_t E rfl, trivial⟩, (show InR .i64 (0) by decide), l22, r23, r24, r25⟩
        obtain rfl := Option.some.inj hF
        exact fin _ _ hret
      replace hF := cond_f hc26 hF
      refine wp_skip ?_
      refine t_norm ?_
      refine wp_seq ?_
      refine c_region ?_
      refine l_val E ok (y_move rfl) rfl rfl fun a E => ?_
      obtain ⟨r27, e28, hF⟩ := bnd hF
      refine l_call E go_127 rfl (strconv_Atoi_w N r12.1 l14 e28 hG ok) rfl rfl ?_
      rintro _ w ⟨⟨rfl, ok⟩, r29⟩
      refine ⟨_, rfl, fun a E => ?_⟩
      refine l_val E ok (y_move rfl) rfl rfl fun a E => ?_
      refine l_val E ok (y_extract rfl rfl) rfl rfl fun a E => ?_
      refine l_val E ok (y_extract rfl rfl) rfl rfl fun a E => ?_
      refine l_val E ok (y_assign rfl) rfl rfl fun a E => ?_
      refine l_val E ok (y_assign rfl) rfl rfl fun a E => ?_
      refine wpList_nil ?_
      refine t_norm ?_
      refine wp_seq ?_
      refine wp_seq ?_
      refine c_region ?_
      refine l_val E ok (y_move rfl) rfl rfl fun a E => ?_
      refine l_val E ok (y_move rfl) rfl rfl fun a E => ?_
      obtain ⟨r30, e31, hF⟩ := bnd hF
      replace ok : Ok u m0 ([(pb1, Obj.cells [(Value.int .i64 x1)].toArray 3 (0, 0))] :: [(pb2, Obj.cells [(Value.int .i64 x2.From), (Value.int .i64 x2.To)].toArray 49 (0, 0))] :: [(pb0, Obj.cells [(Value.string (bs r20.s)), (Value.int .i64 r20.at_), (Value.int .i64 r20.relations), (Value.int .i64 r20.e)].toArray 88 (0, 0))] :: S) w := (ok.pk 3 [1, 2, 0] rfl (by decide))
      refine l_callc E rfl go_129 rfl (condition_parser_span_2_w N r27.1 r29 x1 r5 x2 r6 r7 e31 hG ok) rfl rfl ?_
      rintro _ w ⟨⟨rfl, ok⟩, r32⟩
      refine ⟨_, rfl, fun a E => ?_⟩
      refine l_val E ok (y_assign rfl) rfl rfl fun a E => ?_
      refine wpList_nil ?_
      refine t_norm ?_
      refine wp_seq ?_
      refine c_region ?_
      refine l_val E ok (y_move rfl) rfl rfl fun a E => ?_
      refine l_val E ok (y_neq rfl rfl) rfl rfl fun a E => ?_
      refine wpList_nil ?_
      refine t_norm ?_
      refine c_if E rfl (fun hc33 => ?_) (fun hc33 => ?_)
      · replace hF := cond_t hc33 hF
        refine wp_seq ?_
        refine c_region ?_
        refine l_val E ok (y_move rfl) rfl rfl fun a E => ?_
        refine l_val E ok (y_move rfl) rfl rfl fun a E => ?_
        obtain ⟨r34, e35, hF⟩ := bnd hF
        replace ok : Ok u m0 ([(pb0, Obj.cells [(Value.string (bs r20.s)), (Value.int .i64 r20.at_), (Value.int .i64 r20.relations), (Value.int .i64 r20.e)].toArray 88 (0, 0))] :: [(pb1, Obj.cells [(Value.int .i64 x1)].toArray 3 (0, 0))] :: [(pb2, Obj.cells [(Value.int .i64 x2.From), (Value.int .i64 x2.To)].toArray 49 (0, 0))] :: S) w := (ok.pk 3 [2, 0, 1] rfl (by decide))
        refine l_call E go_71 rfl (condition_parser_fail_w N r30 r32 r20 l22 r23 r24 r25 e35 hG ok) rfl rfl ?_
        rintro _ w ⟨⟨rfl, ok⟩, l36, r37, r38, r39⟩
        refine ⟨_, rfl, fun a E => ?_⟩
        refine wpList_nil ?_
        refine t_norm ?_
        refine wp_seq ?_
        refine c_region ?_
        refine l_val E ok (y_assign rfl) rfl rfl fun a E => ?_
        refine wpList_nil ?_
        refine t_norm ?_
        refine wp_ret ?_
        refine t_ret ?_
        have hret : condition_parser_number__129_R u m0 S pb0 pb1 pb2 x0 x1 x2 (0, r34) a w := ⟨ok, E.d, ⟨rv_t E rfl, trivial⟩, (show InR .i64 (0) by decide), l36, r37, r38, r39⟩
        obtain rfl := Option.some.inj hF
        exact fin _ _ hret
      replace hF := cond_f hc33 hF
      refine wp_skip ?_
      refine t_norm ?_
      refine wp_seq ?_
      refine c_region ?_
      refine l_val E ok (y_move rfl) rfl rfl fun a E => ?_
      refine l_val E ok (y_nilCheck rfl) rfl rfl fun a E => ?_
      refine l_val E ok (y_fieldAddr fo_88_1 rfl) rfl rfl fun a E => ?_
      refine l_val E ok (y_load one_3 rfl (Holds.own 2 rfl rfl)) rfl rfl fun a E => ?_
      refine l_val E ok (y_move rfl) rfl rfl fun a E => ?_
      refine l_val E ok (y_slen Tryz.underlying9 rfl) rfl rfl fun a E => ?_
      refine l_val E ok (y_addw rfl rfl) rfl rfl fun a E => ?_
      refine l_val E ok (y_nilCheck rfl) rfl rfl fun a E => ?_
      refine l_val E ok (y_fieldAddr fo_88_1 rfl) rfl rfl fun a E => ?_
      refine l_storeB E ok 2 rfl rfl rfl inf_3 rfl rfl ⟨rfl, trivial⟩ rfl rfl fun w ok => ?_
      refine wpList_nil ?_
      refine t_norm ?_
      refine wp_seq ?_
      refine c_region ?_
      refine l_val E ok (y_move rfl) rfl rfl fun a E => ?_
      refine l_val E ok (y_assign rfl) rfl rfl fun a E => ?_
      refine wpList_nil ?_
      refine t_norm ?_
      refine wp_ret ?_
      have hret : condition_parser_number__129_R u m0 S pb0 pb1 pb2 x0 x1 x2 (r27.1, (Parser.mk r20.s (IntKind.wrap .i64 (r20.at_ + (r12.1.length : Int))) r20.relations r20.e)) a w := ⟨(ok.pk 3 [2, 0, 1] rfl (by decide)), E.d, ⟨rv_t E rfl, trivial⟩, r29, l22, (InR.wrap _ _), r24, r25⟩
      obtain rfl := Option.some.inj hF
      exact fin _ _ hret
  replace hF := cond_f hc19 hF
  replace E := E.upd 13 hc19 rfl
  refine l_val E ok (y_move rfl) rfl rfl fun a E => ?_
  obtain ⟨c40, e41, hF⟩ := bnd hF
  refine l_val E ok (y_index Tryz.underlying9 rfl rfl e41) rfl rfl fun a E => ?_
  obtain ⟨r42, e43, hF⟩ := bnd hF
  refine l_call E go_124 rfl (condition_digit_w N (c40.toNat : Int) (InR.byte c40) e43 hG ok) rfl rfl ?_
  rintro _ w ⟨rfl, ok⟩
  refine ⟨_, rfl, fun a E => ?_⟩
  refine l_val E ok (y_not rfl) rfl rfl fun a E => ?_
  refine l_val E ok (y_pickF rfl rfl) rfl rfl fun a E => ?_
  refine l_val E ok (y_move rfl) rfl rfl fun a E => ?_
  refine bsplit (!r42) (fun hc44 => ?_) (fun hc44 => ?_)
  · as_aux_lemma =>
      replace hF := cond_t hc44 hF
      replace E := E.upd 19 hc44 rfl
      refine l_skip E rfl rfl fun a E => ?_
      refine l_skip E rfl rfl fun a E => ?_
      refine l_skip E rfl rfl fun a E => ?_
      refine l_val E ok (y_pickT rfl rfl) rfl rfl fun a E => ?_
      refine l_val E ok (y_move rfl) rfl rfl fun a E => ?_
      refine l_skip E rfl rfl fun a E => ?_
      refine l_skip E rfl rfl fun a E => ?_
      refine l_skip E rfl rfl fun a E => ?_
      refine l_skip E rfl rfl fun a E => ?_
      refine l_skip E rfl rfl fun a E => ?_
      refine l_skip E rfl rfl fun a E => ?_
      refine l_skip E rfl rfl fun a E => ?_
      refine l_skip E rfl rfl fun a E => ?_
      refine l_val E ok (y_pickT rfl rfl) rfl rfl fun a E => ?_
      refine wpList_nil ?_
      refine t_norm ?_
      refine c_if E rfl (fun _ => ?_) (fun h => by cases h)
      refine c_region ?_
      refine l_val E ok (y_move rfl) rfl rfl fun a E => ?_
      obtain ⟨r45, e46, hF⟩ := bnd hF
      refine l_call E go_71 rfl (condition_parser_fail_w N 3 (show InR .i64 (3) by decide) r12.2 l15 r16 r17 r18 e46 hG ok) rfl rfl ?_
      rintro _ w ⟨⟨rfl, ok⟩, l47, r48, r49, r50⟩
      refine ⟨_, rfl, fun a E => ?_⟩
      refine wpList_nil ?_
      refine t_norm ?_
      refine wp_seq ?_
      refine wp_seq ?_
      refine c_region ?_
      refine l_val E ok (y_move rfl) rfl rfl fun a E => ?_
      refine l_val E ok (y_nilCheck rfl) rfl rfl fun a E => ?_
      refine l_val E ok (y_fieldAddr fo_88_3 rfl) rfl rfl fun a E => ?_
      refine l_val E ok (y_load one_25 rfl (Holds.own 0 rfl rfl)) rfl rfl fun a E => ?_
      refine l_val E ok (y_neq rfl rfl) rfl rfl fun a E => ?_
      refine wpList_nil ?_
      refine t_norm ?_
      refine c_if E rfl (fun hc51 => ?_) (fun hc51 => ?_)
      · replace hF := cond_t hc51 hF
        refine wp_seq ?_
        refine c_region ?_
        refine l_val E ok (y_assign rfl) rfl rfl fun a E => ?_
        refine wpList_nil ?_
        refine t_norm ?_
        refine wp_ret ?_
        refine t_ret ?_
        have hret : condition_parser_number__129_R u m0 S pb0 pb1 pb2 x0 x1 x2 (0, r45) a w := ⟨ok, E.d, ⟨rv_t E rfl, trivial⟩, (show InR .i64 (0) by decide), l47, r48, r49, r50⟩
        obtain rfl := Option.some.inj hF
        exact fin _ _ hret
      replace hF := cond_f hc51 hF
      refine wp_skip ?_
      refine t_norm ?_
      refine wp_seq ?_
      refine c_region ?_
      refine l_val E ok (y_move rfl) rfl rfl fun a E => ?_
      obtain ⟨r52, e53, hF⟩ := bnd hF
      refine l_call E go_127 rfl (strconv_Atoi_w N r12.1 l14 e53 hG ok) rfl rfl ?_
      rintro _ w ⟨⟨rfl, ok⟩, r54⟩
      refine ⟨_, rfl, fun a E => ?_⟩
      refine l_val E ok (y_move rfl) rfl rfl fun a E => ?_
      refine l_val E ok (y_extract rfl rfl) rfl rfl fun a E => ?_
      refine l_val E ok (y_extract rfl rfl) rfl rfl fun a E => ?_
      refine l_val E ok (y_assign rfl) rfl rfl fun a E => ?_
      refine l_val E ok (y_assign rfl) rfl rfl fun a E => ?_
      refine wpList_nil ?_
      refine t_norm ?_
      refine wp_seq ?_
      refine wp_seq ?_
      refine c_region ?_
      refine l_val E ok (y_move rfl) rfl rfl fun a E => ?_
      refine l_val E ok (y_move rfl) rfl rfl fun a E => ?_
      obtain ⟨r55, e56, hF⟩ := bnd hF
      replace ok : Ok u m0 ([(pb1, Obj.cells [(Value.int .i64 x1)].toArray 3 (0, 0))] :: [(pb2, Obj.cells [(Value.int .i64 x2.From), (Value.int .i64 x2.To)].toArray 49 (0, 0))] :: [(pb0, Obj.cells [(Value.string (bs r45.s)), (Value.int .i64 r45.at_), (Value.int .i64 r45.relations), (Value.int .i64 r45.e)].toArray 88 (0, 0))] :: S) w := (ok.pk 3 [1, 2, 0] rfl (by decide))
      refine l_callc E rfl go_129 rfl (condition_parser_span_2_w N r52.1 r54 x1 r5 x2 r6 r7 e56 hG ok) rfl rfl ?_
      rintro _ w ⟨⟨rfl, ok⟩, r57⟩
      refine ⟨_, rfl, fun a E => ?_⟩
      refine l_val E ok (y_assign rfl) rfl rfl fun a E => ?_
      refine wpList_nil ?_
      refine t_norm ?_
      refine wp_seq ?_
      refine c_region ?_
      refine l_val E ok (y_move rfl) rfl rfl fun a E => ?_
      refine l_val E ok (y_neq rfl rfl) rfl rfl fun a E => ?_
      refine wpList_nil ?_
      refine t_norm ?_
      refine c_if E rfl (fun hc58 => ?_) (fun hc58 => ?_)
      · replace hF := cond_t hc58 hF
        refine wp_seq ?_
        refine c_region ?_
        refine l_val E ok (y_move rfl) rfl rfl fun a E => ?_
        refine l_val E ok (y_move rfl) rfl rfl fun a E => ?_
        obtain ⟨r59, e60, hF⟩ := bnd hF
        replace ok : Ok u m0 ([(pb0, Obj.cells [(Value.string (bs r45.s)), (Value.int .i64 r45.at_), (Value.int .i64 r45.relations), (Value.int .i64 r45.e)].toArray 88 (0, 0))] :: [(pb1, Obj.cells [(Value.int .i64 x1)].toArray 3 (0, 0))] :: [(pb2, Obj.cells [(Value.int .i64 x2.From), (Value.int .i64 x2.To)].toArray 49 (0, 0))] :: S) w := (ok.pk 3 [2, 0, 1] rfl (by decide))
        refine l_call E go_71 rfl (condition_parser_fail_w N r55 r57 r45 l47 r48 r49 r50 e60 hG ok) rfl rfl ?_
        rintro _ w ⟨⟨rfl, ok⟩, l61, r62, r63, r64⟩
        refine ⟨_, rfl, fun a E => ?_⟩
        refine wpList_nil ?_
        refine t_norm ?_
        refine wp_seq ?_
        refine c_region ?_
        refine l_val E ok (y_assign rfl) rfl rfl fun a E => ?_
        refine wpList_nil ?_
        refine t_norm ?_
        refine wp_ret ?_
        refine t_ret ?_
        have hret : condition_parser_number__129_R u m0 S pb0 pb1 pb2 x0 x1 x2 (0, r59) a w := ⟨ok, E.d, ⟨rv_t E rfl, trivial⟩, (show InR .i64 (0) by decide), l61, r62, r63, r64⟩
        obtain rfl := Option.some.inj hF
        exact fin _ _ hret
      replace hF := cond_f hc58 hF
      refine wp_skip ?_
      refine t_norm ?_
      refine wp_seq ?_
      refine c_region ?_
      refine l_val E ok (y_move rfl) rfl rfl fun a E => ?_
      refine l_val E ok (y_nilCheck rfl) rfl rfl fun a E => ?_
      refine l_val E ok (y_fieldAddr fo_88_1 rfl) rfl rfl fun a E => ?_
      refine l_val E ok (y_load one_3 rfl (Holds.own 2 rfl rfl)) rfl rfl fun a E => ?_
      refine l_val E ok (y_move rfl) rfl rfl fun a E => ?_
      refine l_val E ok (y_slen Tryz.underlying9 rfl) rfl rfl fun a E => ?_
      refine l_val E ok (y_addw rfl rfl) rfl rfl fun a E => ?_
      refine l_val E ok (y_nilCheck rfl) rfl rfl fun a E => ?_
      refine l_val E ok (y_fieldAddr fo_88_1 rfl) rfl rfl fun a E => ?_
      refine l_storeB E ok 2 rfl rfl rfl inf_3 rfl rfl ⟨rfl, trivial⟩ rfl rfl fun w ok => ?_
      refine wpList_nil ?_
      refine t_norm ?_
      refine wp_seq ?_
      refine c_region ?_
      refine l_val E ok (y_move rfl) rfl rfl fun a E => ?_
      refine l_val E ok (y_assign rfl) rfl rfl fun a E => ?_
      refine wpList_nil ?_
      refine t_norm ?_
      refine wp_ret ?_
      have hret : condition_parser_number__129_R u m0 S pb0 pb1 pb2 x0 x1 x2 (r52.1, (Parser.mk r45.s (IntKind.wrap .i64 (r45.at_ + (r12.1.length : Int))) r45.relations r45.e)) a w := ⟨(ok.pk 3 [2, 0, 1] rfl (by decide)), E.d, ⟨rv_t E rfl, trivial⟩, r54, l47, (InR.wrap _ _), r49, r50⟩
      obtain rfl := Option.some.inj hF
      exact fin _ _ hret
  replace hF := cond_f hc44 hF
  replace E := E.upd 19 hc44 rfl
  refine l_val E ok (y_move rfl) rfl rfl fun a E => ?_
  refine l_val E ok (y_slen Tryz.underlying9 rfl) rfl rfl fun a E => ?_
  refine l_val E ok (y_gtr rfl rfl) rfl rfl fun a E => ?_
  refine l_val E ok (y_pickF rfl rfl) rfl rfl fun a E => ?_
  refine l_val E ok (y_move rfl) rfl rfl fun a E => ?_
  refine bsplit (decide ((r12.1.length : Int) > 3)) (fun hc65 => ?_) (fun hc65 => ?_)
  · as_aux_lemma =>
      replace hF := cond_t hc65 hF
      replace E := E.upd 24 hc65 rfl
      refine l_skip E rfl rfl fun a E => ?_
      refine l_skip E rfl rfl fun a E => ?_
      refine l_skip E rfl rfl fun a E => ?_
      refine l_skip E rfl rfl fun a E => ?_
      refine l_skip E rfl rfl fun a E => ?_
      refine l_skip E rfl rfl fun a E => ?_
      refine l_skip E rfl rfl fun a E => ?_
      refine l_skip E rfl rfl fun a E => ?_
      refine l_val E ok (y_pickT rfl rfl) rfl rfl fun a E => ?_
      refine wpList_nil ?_
      refine t_norm ?_
      refine c_if E rfl (fun _ => ?_) (fun h => by cases h)
      refine c_region ?_
      refine l_val E ok (y_move rfl) rfl rfl fun a E => ?_
      obtain ⟨r66, e67, hF⟩ := bnd hF
      refine l_call E go_71 rfl (condition_parser_fail_w N 3 (show InR .i64 (3) by decide) r12.2 l15 r16 r17 r18 e67 hG ok) rfl rfl ?_
      rintro _ w ⟨⟨rfl, ok⟩, l68, r69, r70, r71⟩
      refine ⟨_, rfl, fun a E => ?_⟩
      refine wpList_nil ?_
      refine t_norm ?_
      refine wp_seq ?_
      refine wp_seq ?_
      refine c_region ?_
      refine l_val E ok (y_move rfl) rfl rfl fun a E => ?_
      refine l_val E ok (y_nilCheck rfl) rfl rfl fun a E => ?_
      refine l_val E ok (y_fieldAddr fo_88_3 rfl) rfl rfl fun a E => ?_
      refine l_val E ok (y_load one_25 rfl (Holds.own 0 rfl rfl)) rfl rfl fun a E => ?_
      refine l_val E ok (y_neq rfl rfl) rfl rfl fun a E => ?_
      refine wpList_nil ?_
      refine t_norm ?_
      refine c_if E rfl (fun hc72 => ?_) (fun hc72 => ?_)
      · replace hF := cond_t hc72 hF
        refine wp_seq ?_
        refine c_region ?_
        refine l_val E ok (y_assign rfl) rfl rfl fun a E => ?_
        refine wpList_nil ?_
        refine t_norm ?_
        refine wp_ret ?_
        refine t_ret ?_
        have hret : condition_parser_number__129_R u m0 S pb0 pb1 pb2 x0 x1 x2 (0, r66) a w := ⟨ok, E.d, ⟨rv_t E rfl, trivial⟩, (show InR .i64 (0) by decide), l68, r69, r70, r71⟩
        obtain rfl := Option.some.inj hF
        exact fin _ _ hret
      replace hF := cond_f hc72 hF
      refine wp_skip ?_
      refine t_norm ?_
      refine wp_seq ?_
      refine c_region ?_
      refine l_val E ok (y_move rfl) rfl rfl fun a E => ?_
      obtain ⟨r73, e74, hF⟩ := bnd hF
      refine l_call E go_127 rfl (strconv_Atoi_w N r12.1 l14 e74 hG ok) rfl rfl ?_
      rintro _ w ⟨⟨rfl, ok⟩, r75⟩
      refine ⟨_, rfl, fun a E => ?_⟩
      refine l_val E ok (y_move rfl) rfl rfl fun a E => ?_
      refine l_val E ok (y_extract rfl rfl) rfl rfl fun a E => ?_
      refine l_val E ok (y_extract rfl rfl) rfl rfl fun a E => ?_
      refine l_val E ok (y_assign rfl) rfl rfl fun a E => ?_
      refine l_val E ok (y_assign rfl) rfl rfl fun a E => ?_
      refine wpList_nil ?_
      refine t_norm ?_
      refine wp_seq ?_
      refine wp_seq ?_
      refine c_region ?_
      refine l_val E ok (y_move rfl) rfl rfl fun a E => ?_
      refine l_val E ok (y_move rfl) rfl rfl fun a E => ?_
      obtain ⟨r76, e77, hF⟩ := bnd hF
      replace ok : Ok u m0 ([(pb1, Obj.cells [(Value.int .i64 x1)].toArray 3 (0, 0))] :: [(pb2, Obj.cells [(Value.int .i64 x2.From), (Value.int .i64 x2.To)].toArray 49 (0, 0))] :: [(pb0, Obj.cells [(Value.string (bs r66.s)), (Value.int .i64 r66.at_), (Value.int .i64 r66.relations), (Value.int .i64 r66.e)].toArray 88 (0, 0))] :: S) w := (ok.pk 3 [1, 2, 0] rfl (by decide))
      refine l_callc E rfl go_129 rfl (condition_parser_span_2_w N r73.1 r75 x1 r5 x2 r6 r7 e77 hG ok) rfl rfl ?_
      rintro _ w ⟨⟨rfl, ok⟩, r78⟩
      refine ⟨_, rfl, fun a E => ?_⟩
      refine l_val E ok (y_assign rfl) rfl rfl fun a E => ?_
      refine wpList_nil ?_
      refine t_norm ?_
      refine wp_seq ?_
      refine c_region ?_
      refine l_val E ok (y_move rfl) rfl rfl fun a E => ?_
      refine l_val E ok (y_neq rfl rfl) rfl rfl fun a E => ?_
      refine wpList_nil ?_
      refine t_norm ?_
      refine c_if E rfl (fun hc79 => ?_) (fun hc79 => ?_)
      · replace hF := cond_t hc79 hF
        refine wp_seq ?_
        refine c_region ?_
        refine l_val E ok (y_move rfl) rfl rfl fun a E => ?_
        refine l_val E ok (y_move rfl) rfl rfl fun a E => ?_
        obtain ⟨r80, e81, hF⟩ := bnd hF
        replace ok : Ok u m0 ([(pb0, Obj.cells [(Value.string (bs r66.s)), (Value.int .i64 r66.at_), (Value.int .i64 r66.relations), (Value.int .i64 r66.e)].toArray 88 (0, 0))] :: [(pb1, Obj.cells [(Value.int .i64 x1)].toArray 3 (0, 0))] :: [(pb2, Obj.cells [(Value.int .i64 x2.From), (Value.int .i64 x2.To)].toArray 49 (0, 0))] :: S) w := (ok.pk 3 [2, 0, 1] rfl (by decide))
        refine l_call E go_71 rfl (condition_parser_fail_w N r76 r78 r66 l68 r69 r70 r71 e81 hG ok) rfl rfl ?_
        rintro _ w ⟨⟨rfl, ok⟩, l82, r83, r84, r85⟩
        refine ⟨_, rfl, fun a E => ?_⟩
        refine wpList_nil ?_
        refine t_norm ?_
        refine wp_seq ?_
        refine c_region ?_
        refine l_val E ok (y_assign rfl) rfl rfl fun a E => ?_
        refine wpList_nil ?_
        refine t_norm ?_
        refine wp_ret ?_
        refine t_ret ?_
        have hret : condition_parser_number__129_R u m0 S pb0 pb1 pb2 x0 x1 x2 (0, r80) a w := ⟨ok, E.d, ⟨rv_t E rfl, trivial⟩, (show InR .i64 (0) by decide), l82, r83, r84, r85⟩
        obtain rfl := Option.some.inj hF
        exact fin _ _ hret
      replace hF := cond_f hc79 hF
      refine wp_skip ?_
      refine t_norm ?_
      refine wp_seq ?_
      refine c_region ?_
      refine l_val E ok (y_move rfl) rfl rfl fun a E => ?_
      refine l_val E ok (y_nilCheck rfl) rfl rfl fun a E => ?_
      refine l_val E ok (y_fieldAddr fo_88_1 rfl) rfl rfl fun a E => ?_
      refine l_val E ok (y_load one_3 rfl (Holds.own 2 rfl rfl)) rfl rfl fun a E => ?_
      refine l_val E ok (y_move rfl) rfl rfl fun a E => ?_
      refine l_val E ok (y_slen Tryz.underlying9 rfl) rfl rfl fun a E => ?_
      refine l_val E ok (y_addw rfl rfl) rfl rfl fun a E => ?_
      refine l_val E ok (y_nilCheck rfl) rfl rfl fun a E => ?_
      refine l_val E ok (y_fieldAddr fo_88_1 rfl) rfl rfl fun a E => ?_
      refine l_storeB E ok 2 rfl rfl rfl inf_3 rfl rfl ⟨rfl, trivial⟩ rfl rfl fun w ok => ?_
      refine wpList_nil ?_
      refine t_norm ?_
      refine wp_seq ?_
      refine c_region ?_
      refine l_val E ok (y_move rfl) rfl rfl fun a E => ?_
      refine l_val E ok (y_assign rfl) rfl rfl fun a E => ?_
      refine wpList_nil ?_
      refine t_norm ?_
      refine wp_ret ?_
      have hret : condition_parser_number__129_R u m0 S pb0 pb1 pb2 x0 x1 x2 (r73.1, (Parser.mk r66.s (IntKind.wrap .i64 (r66.at_ + (r12.1.length : Int))) r66.relations r66.e)) a w := ⟨(ok.pk 3 [2, 0, 1] rfl (by decide)), E.d, ⟨rv_t E rfl, trivial⟩, r75, l68, (InR.wrap _ _), r70, r71⟩
      obtain rfl := Option.some.inj hF
      exact fin _ _ hret
  replace hF := cond_f hc65 hF
  replace E := E.upd 24 hc65 rfl
  refine l_val E ok (y_move rfl) rfl rfl fun a E => ?_
  refine l_val E ok (y_slen Tryz.underlying9 rfl) rfl rfl fun a E => ?_
  refine l_val E ok (y_gtr rfl rfl) rfl rfl fun a E => ?_
  refine l_val E ok (y_move rfl) rfl rfl fun a E => ?_
  refine bsplit (decide ((r12.1.length : Int) > 1)) (fun hc86 => ?_) (fun hc86 => ?_)
  rotate_left
  · as_aux_lemma =>
      replace hF := cond_f hc86 hF
      replace E := E.upd 28 hc86 rfl
      refine l_skip E rfl rfl fun a E => ?_
      refine l_skip E rfl rfl fun a E => ?_
      refine l_skip E rfl rfl fun a E => ?_
      refine l_val E ok (y_pickF rfl rfl) rfl rfl fun a E => ?_
      refine l_val E ok (y_pickF rfl rfl) rfl rfl fun a E => ?_
      refine wpList_nil ?_
      refine t_norm ?_
      refine c_if E rfl (fun h => by cases h) (fun _ => ?_)
      refine wp_skip ?_
      refine t_norm ?_
      refine wp_seq ?_
      refine wp_seq ?_
      refine c_region ?_
      refine l_val E ok (y_move rfl) rfl rfl fun a E => ?_
      refine l_val E ok (y_nilCheck rfl) rfl rfl fun a E => ?_
      refine l_val E ok (y_fieldAddr fo_88_3 rfl) rfl rfl fun a E => ?_
      refine l_val E ok (y_load one_25 rfl (Holds.own 0 rfl rfl)) rfl rfl fun a E => ?_
      refine l_val E ok (y_neq rfl rfl) rfl rfl fun a E => ?_
      refine wpList_nil ?_
      refine t_norm ?_
      refine c_if E rfl (fun hc119 => ?_) (fun hc119 => ?_)
      · replace hF := cond_t hc119 hF
        refine wp_seq ?_
        refine c_region ?_
        refine l_val E ok (y_assign rfl) rfl rfl fun a E => ?_
        refine wpList_nil ?_
        refine t_norm ?_
        refine wp_ret ?_
        refine t_ret ?_
        have hret : condition_parser_number__129_R u m0 S pb0 pb1 pb2 x0 x1 x2 (0, r12.2) a w := ⟨ok, E.d, ⟨rv_t E rfl, trivial⟩, (show InR .i64 (0) by decide), l15, r16, r17, r18⟩
        obtain rfl := Option.some.inj hF
        exact fin _ _ hret
      replace hF := cond_f hc119 hF
      refine wp_skip ?_
      refine t_norm ?_
      refine wp_seq ?_
      refine c_region ?_
      refine l_val E ok (y_move rfl) rfl rfl fun a E => ?_
      obtain ⟨r120, e121, hF⟩ := bnd hF
      refine l_call E go_127 rfl (strconv_Atoi_w N r12.1 l14 e121 hG ok) rfl rfl ?_
      rintro _ w ⟨⟨rfl, ok⟩, r122⟩
      refine ⟨_, rfl, fun a E => ?_⟩
      refine l_val E ok (y_move rfl) rfl rfl fun a E => ?_
      refine l_val E ok (y_extract rfl rfl) rfl rfl fun a E => ?_
      refine l_val E ok (y_extract rfl rfl) rfl rfl fun a E => ?_
      refine l_val E ok (y_assign rfl) rfl rfl fun a E => ?_
      refine l_val E ok (y_assign rfl) rfl rfl fun a E => ?_
      refine wpList_nil ?_
      refine t_norm ?_
      refine wp_seq ?_
      refine wp_seq ?_
      refine c_region ?_
      refine l_val E ok (y_move rfl) rfl rfl fun a E => ?_
      refine l_val E ok (y_move rfl) rfl rfl fun a E => ?_
      obtain ⟨r123, e124, hF⟩ := bnd hF
      replace ok : Ok u m0 ([(pb1, Obj.cells [(Value.int .i64 x1)].toArray 3 (0, 0))] :: [(pb2, Obj.cells [(Value.int .i64 x2.From), (Value.int .i64 x2.To)].toArray 49 (0, 0))] :: [(pb0, Obj.cells [(Value.string (bs r12.2.s)), (Value.int .i64 r12.2.at_), (Value.int .i64 r12.2.relations), (Value.int .i64 r12.2.e)].toArray 88 (0, 0))] :: S) w := (ok.pk 3 [1, 2, 0] rfl (by decide))
      refine l_callc E rfl go_129 rfl (condition_parser_span_2_w N r120.1 r122 x1 r5 x2 r6 r7 e124 hG ok) rfl rfl ?_
      rintro _ w ⟨⟨rfl, ok⟩, r125⟩
      refine ⟨_, rfl, fun a E => ?_⟩
      refine l_val E ok (y_assign rfl) rfl rfl fun a E => ?_
      refine wpList_nil ?_
      refine t_norm ?_
      refine wp_seq ?_
      refine c_region ?_
      refine l_val E ok (y_move rfl) rfl rfl fun a E => ?_
      refine l_val E ok (y_neq rfl rfl) rfl rfl fun a E => ?_
      refine wpList_nil ?_
      refine t_norm ?_
      refine c_if E rfl (fun hc126 => ?_) (fun hc126 => ?_)
      · replace hF := cond_t hc126 hF
        refine wp_seq ?_
        refine c_region ?_
        refine l_val E ok (y_move rfl) rfl rfl fun a E => ?_
        refine l_val E ok (y_move rfl) rfl rfl fun a E => ?_
        obtain ⟨r127, e128, hF⟩ := bnd hF
        replace ok : Ok u m0 ([(pb0, Obj.cells [(Value.string (bs r12.2.s)), (Value.int .i64 r12.2.at_), (Value.int .i64 r12.2.relations), (Value.int .i64 r12.2.e)].toArray 88 (0, 0))] :: [(pb1, Obj.cells [(Value.int .i64 x1)].toArray 3 (0, 0))] :: [(pb2, Obj.cells [(Value.int .i64 x2.From), (Value.int .i64 x2.To)].toArray 49 (0, 0))] :: S) w := (ok.pk 3 [2, 0, 1] rfl (by decide))
        refine l_call E go_71 rfl (condition_parser_fail_w N r123 r125 r12.2 l15 r16 r17 r18 e128 hG ok) rfl rfl ?_
        rintro _ w ⟨⟨rfl, ok⟩, l129, r130, r131, r132⟩
        refine ⟨_, rfl, fun a E => ?_⟩
        refine wpList_nil ?_
        refine t_norm ?_
        refine wp_seq ?_
        refine c_region ?_
        refine l_val E ok (y_assign rfl) rfl rfl fun a E => ?_
        refine wpList_nil ?_
        refine t_norm ?_
        refine wp_ret ?_
        refine t_ret ?_
        have hret : condition_parser_number__129_R u m0 S pb0 pb1 pb2 x0 x1 x2 (0, r127) a w := ⟨ok, E.d, ⟨rv_t E rfl, trivial⟩, (show InR .i64 (0) by decide), l129, r130, r131, r132⟩
        obtain rfl := Option.some.inj hF
        exact fin _ _ hret
      replace hF := cond_f hc126 hF
      refine wp_skip ?_
      refine t_norm ?_
      refine wp_seq ?_
      refine c_region ?_
      refine l_val E ok (y_move rfl) rfl rfl fun a E => ?_
      refine l_val E ok (y_nilCheck rfl) rfl rfl fun a E => ?_
      refine l_val E ok (y_fieldAddr fo_88_1 rfl) rfl rfl fun a E => ?_
      refine l_val E ok (y_load one_3 rfl (Holds.own 2 rfl rfl)) rfl rfl fun a E => ?_
      refine l_val E ok (y_move rfl) rfl rfl fun a E => ?_
      refine l_val E ok (y_slen Tryz.underlying9 rfl) rfl rfl fun a E => ?_
      refine l_val E ok (y_addw rfl rfl) rfl rfl fun a E => ?_
      refine l_val E ok (y_nilCheck rfl) rfl rfl fun a E => ?_
      refine l_val E ok (y_fieldAddr fo_88_1 rfl) rfl rfl fun a E => ?_
      refine l_storeB E ok 2 rfl rfl rfl inf_3 rfl rfl ⟨rfl, trivial⟩ rfl rfl fun w ok => ?_
      refine wpList_nil ?_
      refine t_norm ?_
      refine wp_seq ?_
      refine c_region ?_
      refine l_val E ok (y_move rfl) rfl rfl fun a E => ?_
      refine l_val E ok (y_assign rfl) rfl rfl fun a E => ?_
      refine wpList_nil ?_
      refine t_norm ?_
      refine wp_ret ?_
      have hret : condition_parser_number__129_R u m0 S pb0 pb1 pb2 x0 x1 x2 (r120.1, (Parser.mk r12.2.s (IntKind.wrap .i64 (r12.2.at_ + (r12.1.length : Int))) r12.2.relations r12.2.e)) a w := ⟨(ok.pk 3 [2, 0, 1] rfl (by decide)), E.d, ⟨rv_t E rfl, trivial⟩, r122, l15, (InR.wrap _ _), r17, r18⟩
      obtain rfl := Option.some.inj hF
      exact fin _ _ hret
  replace hF := cond_t hc86 hF
  replace E := E.upd 28 hc86 rfl
  refine l_val E ok (y_move rfl) rfl rfl fun a E => ?_
  obtain ⟨c87, e88, hF⟩ := bnd hF
  refine l_val E ok (y_index Tryz.underlying9 rfl rfl e88) rfl rfl fun a E => ?_
  refine l_val E ok (y_eql rfl rfl) rfl rfl fun a E => ?_
  refine l_val E ok (y_pickT rfl rfl) rfl rfl fun a E => ?_
  refine l_val E ok (y_pickF rfl rfl) rfl rfl fun a E => ?_
  refine wpList_nil ?_
  refine t_norm ?_
  obtain ⟨o89, hJ, hF⟩ := bnd hF
  refine c_mono (Q' := fun e a w => e = .normal ∧ Ok u m0 ([(pb0, Obj.cells [(Value.string (bs o89.s)), (Value.int .i64 o89.at_), (Value.int .i64 o89.relations), (Value.int .i64 o89.e)].toArray 88 (0, 0))] :: [(pb1, Obj.cells [(Value.int .i64 x1)].toArray 3 (0, 0))] :: [(pb2, Obj.cells [(Value.int .i64 x2.From), (Value.int .i64 x2.To)].toArray 49 (0, 0))] :: S) w ∧ Env 64 a [(0, (Value.pointer (some ⟨pb0, 0, none⟩))), (1, (Value.func (.func 129) #[] #[.pointer (some ⟨pb1, 0, none⟩), .pointer (some ⟨pb2, 0, none⟩)])), (5, (Value.string (bs r12.1)))] ∧ o89.s.length ≤ LIMS ∧ InR .i64 o89.at_ ∧ InR .i64 o89.relations ∧ InR .i64 o89.e) ?_ ?_
  · replace hF := hJ
    clear hJ
    refine c_if E rfl (fun hc94 => ?_) (fun hc94 => ?_)
    rotate_left
    · replace hF := cond_f hc94 hF
      refine wp_skip ?_
      obtain rfl := Option.some.inj hF
      exact ⟨rfl, ⟨ok, E.keep [0, 1, 5], l15, r16, r17, r18⟩⟩
    replace hF := cond_t hc94 hF
    refine c_region ?_
    refine l_val E ok (y_move rfl) rfl rfl fun a E => ?_
    obtain ⟨r95, e96, hF⟩ := bnd hF
    refine l_call E go_71 rfl (condition_parser_fail_w N 3 (show InR .i64 (3) by decide) r12.2 l15 r16 r17 r18 e96 hG ok) rfl rfl ?_
    rintro _ w ⟨⟨rfl, ok⟩, l97, r98, r99, r100⟩
    refine ⟨_, rfl, fun a E => ?_⟩
    refine wpList_nil ?_
    obtain rfl := Option.some.inj hF
    exact ⟨rfl, ⟨ok, E.keep [0, 1, 5], l97, r98, r99, r100⟩⟩
  clear hJ
  intro e a w hO
  obtain ⟨rfl, ok, E, l101, r102, r103, r104⟩ := hO
  refine t_norm ?_
  refine wp_seq ?_
  refine wp_seq ?_
  refine c_region ?_
  refine l_val E ok (y_move rfl) rfl rfl fun a E => ?_
  refine l_val E ok (y_nilCheck rfl) rfl rfl fun a E => ?_
  refine l_val E ok (y_fieldAddr fo_88_3 rfl) rfl rfl fun a E => ?_
  refine l_val E ok (y_load one_25 rfl (Holds.own 0 rfl rfl)) rfl rfl fun a E => ?_
  refine l_val E ok (y_neq rfl rfl) rfl rfl fun a E => ?_
  refine wpList_nil ?_
  refine t_norm ?_
  refine c_if E rfl (fun hc105 => ?_) (fun hc105 => ?_)
  · replace hF := cond_t hc105 hF
    refine wp_seq ?_
    refine c_region ?_
    refine l_val E ok (y_assign rfl) rfl rfl fun a E => ?_
    refine wpList_nil ?_
    refine t_norm ?_
    refine wp_ret ?_
    refine t_ret ?_
    have hret : condition_parser_number__129_R u m0 S pb0 pb1 pb2 x0 x1 x2 (0, o89) a w := ⟨ok, E.d, ⟨rv_t E rfl, trivial⟩, (show InR .i64 (0) by decide), l101, r102, r103, r104⟩
    obtain rfl := Option.some.inj hF
    exact fin _ _ hret
  replace hF := cond_f hc105 hF
  refine wp_skip ?_
  refine t_norm ?_
  refine wp_seq ?_
  refine c_region ?_
  refine l_val E ok (y_move rfl) rfl rfl fun a E => ?_
  obtain ⟨r106, e107, hF⟩ := bnd hF
  refine l_call E go_127 rfl (strconv_Atoi_w N r12.1 l14 e107 hG ok) rfl rfl ?_
  rintro _ w ⟨⟨rfl, ok⟩, r108⟩
  refine ⟨_, rfl, fun a E => ?_⟩
  refine l_val E ok (y_move rfl) rfl rfl fun a E => ?_
  refine l_val E ok (y_extract rfl rfl) rfl rfl fun a E => ?_
  refine l_val E ok (y_extract rfl rfl) rfl rfl fun a E => ?_
  refine l_val E ok (y_assign rfl) rfl rfl fun a E => ?_
  refine l_val E ok (y_assign rfl) rfl rfl fun a E => ?_
  refine wpList_nil ?_
  refine t_norm ?_
  refine wp_seq ?_
  refine wp_seq ?_
  refine c_region ?_
  refine l_val E ok (y_move rfl) rfl rfl fun a E => ?_
  refine l_val E ok (y_move rfl) rfl rfl fun a E => ?_
  obtain ⟨r109, e110, hF⟩ := bnd hF
  replace ok : Ok u m0 ([(pb1, Obj.cells [(Value.int .i64 x1)].toArray 3 (0, 0))] :: [(pb2, Obj.cells [(Value.int .i64 x2.From), (Value.int .i64 x2.To)].toArray 49 (0, 0))] :: [(pb0, Obj.cells [(Value.string (bs o89.s)), (Value.int .i64 o89.at_), (Value.int .i64 o89.relations), (Value.int .i64 o89.e)].toArray 88 (0, 0))] :: S) w := (ok.pk 3 [1, 2, 0] rfl (by decide))
  refine l_callc E rfl go_129 rfl (condition_parser_span_2_w N r106.1 r108 x1 r5 x2 r6 r7 e110 hG ok) rfl rfl ?_
  rintro _ w ⟨⟨rfl, ok⟩, r111⟩
  refine ⟨_, rfl, fun a E => ?_⟩
  refine l_val E ok (y_assign rfl) rfl rfl fun a E => ?_
  refine wpList_nil ?_
  refine t_norm ?_
  refine wp_seq ?_
  refine c_region ?_
  refine l_val E ok (y_move rfl) rfl rfl fun a E => ?_
  refine l_val E ok (y_neq rfl rfl) rfl rfl fun a E => ?_
  refine wpList_nil ?_
  refine t_norm ?_
  refine c_if E rfl (fun hc112 => ?_) (fun hc112 => ?_)
  · replace hF := cond_t hc112 hF
    refine wp_seq ?_
    refine c_region ?_
    refine l_val E ok (y_move rfl) rfl rfl fun a E => ?_
    refine l_val E ok (y_move rfl) rfl rfl fun a E => ?_
    obtain ⟨r113, e114, hF⟩ := bnd hF
    replace ok : Ok u m0 ([(pb0, Obj.cells [(Value.string (bs o89.s)), (Value.int .i64 o89.at_), (Value.int .i64 o89.relations), (Value.int .i64 o89.e)].toArray 88 (0, 0))] :: [(pb1, Obj.cells [(Value.int .i64 x1)].toArray 3 (0, 0))] :: [(pb2, Obj.cells [(Value.int .i64 x2.From), (Value.int .i64 x2.To)].toArray 49 (0, 0))] :: S) w := (ok.pk 3 [2, 0, 1] rfl (by decide))
    refine l_call E go_71 rfl (condition_parser_fail_w N r109 r111 o89 l101 r102 r103 r104 e114 hG ok) rfl rfl ?_
    rintro _ w ⟨⟨rfl, ok⟩, l115, r116, r117, r118⟩
    refine ⟨_, rfl, fun a E => ?_⟩
    refine wpList_nil ?_
    refine t_norm ?_
    refine wp_seq ?_
    refine c_region ?_
    refine l_val E ok (y_assign rfl) rfl rfl fun a E => ?_
    refine wpList_nil ?_
    refine t_norm ?_
    refine wp_ret ?_
    refine t_ret ?_
    have hret : condition_parser_number__129_R u m0 S pb0 pb1 pb2 x0 x1 x2 (0, r113) a w := ⟨ok, E.d, ⟨rv_t E rfl, trivial⟩, (show InR .i64 (0) by decide), l115, r116, r117, r118⟩
    obtain rfl := Option.some.inj hF
    exact fin _ _ hret
  replace hF := cond_f hc112 hF
  refine wp_skip ?_
  refine t_norm ?_
  refine wp_seq ?_
  refine c_region ?_
  refine l_val E ok (y_move rfl) rfl rfl fun a E => ?_
  refine l_val E ok (y_nilCheck rfl) rfl rfl fun a E => ?_
  refine l_val E ok (y_fieldAddr fo_88_1 rfl) rfl rfl fun a E => ?_
  refine l_val E ok (y_load one_3 rfl (Holds.own 2 rfl rfl)) rfl rfl fun a E => ?_
  refine l_val E ok (y_move rfl) rfl rfl fun a E => ?_
  refine l_val E ok (y_slen Tryz.underlying9 rfl) rfl rfl fun a E => ?_
  refine l_val E ok (y_addw rfl rfl) rfl rfl fun a E => ?_
  refine l_val E ok (y_nilCheck rfl) rfl rfl fun a E => ?_
  refine l_val E ok (y_fieldAddr fo_88_1 rfl) rfl rfl fun a E => ?_
  refine l_storeB E ok 2 rfl rfl rfl inf_3 rfl rfl ⟨rfl, trivial⟩ rfl rfl fun w ok => ?_
  refine wpList_nil ?_
  refine t_norm ?_
  refine wp_seq ?_
  refine c_region ?_
  refine l_val E ok (y_move rfl) rfl rfl fun a E => ?_
  refine l_val E ok (y_assign rfl) rfl rfl fun a E => ?_
  refine wpList_nil ?_
  refine t_norm ?_
  refine wp_ret ?_
  have hret : condition_parser_number__129_R u m0 S pb0 pb1 pb2 x0 x1 x2 (r106.1, (Parser.mk o89.s (IntKind.wrap .i64 (o89.at_ + (r12.1.length : Int))) o89.relations o89.e)) a w := ⟨(ok.pk 3 [2, 0, 1] rfl (by decide)), E.d, ⟨rv_t E rfl, trivial⟩, r108, l101, (InR.wrap _ _), r103, r104⟩
  obtain rfl := Option.some.inj hF
  exact fin _ _ hret

def condition_parser_span_R (u : World) (m0 : Mem) (S : Segs) (pb0 : Nat) (x0 : Parser) (r : Span × Parser) (a : Act) (w : World) : Prop :=
  ∃ m1 v0, m0.le m1 ∧ Ok u m1 ([(pb0, Obj.cells [(Value.string (bs r.2.s)), (Value.int .i64 r.2.at_), (Value.int .i64 r.2.relations), (Value.int .i64 r.2.e)].toArray 88 (0, 0))] :: S) w ∧ a.defers = [] ∧ RVs Tryz.prog a w [.c 6 49 (.agg v0.toArray)] ∧ pSpan m1 v0 r.1 ∧ r.2.s.length ≤ LIMS ∧ InR .i64 r.2.at_ ∧ InR .i64 r.2.relations ∧ InR .i64 r.2.e
set_option maxHeartbeats 4000000 in
set_option maxRecDepth 100000 in
theorem condition_parser_span_w {u : World} {m0 : Mem} {S : Segs} {w : World} (N : Nat) (operand_1 : Int) (roperand_1 : InR .i64 operand_1) (count_2 : Int) (rcount_2 : InR .i64 count_2) {pb0 : Nat} (x0 : Parser) (l1 : x0.s.length ≤ LIMS) (r2 : InR .i64 x0.at_) (r3 : InR .i64 x0.relations) (r4 : InR .i64 x0.e) {r : Span × Parser} (hF : condition_parser_span N operand_1 count_2 x0 = some r) (hG : Glob u) (ok : Ok u m0 ([(pb0, Obj.cells [(Value.string (bs x0.s)), (Value.int .i64 x0.at_), (Value.int .i64 x0.relations), (Value.int .i64 x0.e)].toArray 88 (0, 0))] :: S) w) :
    Calls Tryz.prog 99 [Value.pointer (some ⟨pb0, 0, none⟩), Value.int .i64 operand_1, Value.int .i64 count_2].toArray w fun e w' => ∃ m1 v0, e = .returned (.agg v0.toArray) ∧ m0.le m1 ∧ Ok u m1 ([(pb0, Obj.cells [(Value.string (bs r.2.s)), (Value.int .i64 r.2.at_), (Value.int .i64 r.2.relations), (Value.int .i64 r.2.e)].toArray 88 (0, 0))] :: S) w' ∧ pSpan m1 v0 r.1 ∧ r.2.s.length ≤ LIMS ∧ InR .i64 r.2.at_ ∧ InR .i64 r.2.relations ∧ InR .i64 r.2.e := by
  have le_m0 := Mem.le.refl m0
  unfold condition_parser_span at hF
  have fin : ∀ a w, condition_parser_span_R u m0 S pb0 x0 r a w → bodyPost Tryz.prog Tryz.f99 (fun e w' => ∃ m1 v0, e = .returned (.agg v0.toArray) ∧ m0.le m1 ∧ Ok u m1 ([(pb0, Obj.cells [(Value.string (bs r.2.s)), (Value.int .i64 r.2.at_), (Value.int .i64 r.2.relations), (Value.int .i64 r.2.e)].toArray 88 (0, 0))] :: S) w' ∧ pSpan m1 v0 r.1 ∧ r.2.s.length ≤ LIMS ∧ InR .i64 r.2.at_ ∧ InR .i64 r.2.relations ∧ InR .i64 r.2.e) .ret a w := by
    intro a w h
    obtain ⟨m1, v0, hle, ok, hd, hrv, h0, h1, h2, h3, h4⟩ := h
    exact c_ret2 [.c 6 49 (.agg v0.toArray)] hd rfl hrv ⟨m1, v0, rfl, hle, ok, h0, h1, h2, h3, h4⟩
  refine enter Tryz.func99 rfl rfl rfl fun a E => ?_
  refine wp_seq ?_
  refine c_region ?_
  refine l_box E ok rfl rfl rfl fun b9 a w E ok => ?_
  refine l_box E ok rfl rfl rfl fun b10 a w E ok => ?_
  refine l_alloc E ok zero_49 rfl rfl fun b11 a w E ok => ?_
  refine wpList_nil ?_
  refine t_norm ?_
  refine wp_seq ?_
  refine c_region ?_
  refine l_val E ok (y_makeFunc (caps := [.tmp 4, .tmp 5]) rfl) rfl rfl fun a E => ?_
  refine l_val E ok (y_assign rfl) rfl rfl fun a E => ?_
  refine wpList_nil ?_
  refine t_norm ?_
  refine wp_seq ?_
  refine c_region ?_
  refine l_val E ok (y_move rfl) rfl rfl fun a E => ?_
  refine l_val E ok (y_move rfl) rfl rfl fun a E => ?_
  obtain ⟨r12, e13, hF⟩ := bnd hF
  replace ok : Ok u m0 ([(pb0, Obj.cells [(Value.string (bs x0.s)), (Value.int .i64 x0.at_), (Value.int .i64 x0.relations), (Value.int .i64 x0.e)].toArray 88 (0, 0))] :: [(b9, Obj.cells [(Value.int .i64 operand_1)].toArray 3 (0, 0))] :: [(b10, Obj.cells [(Value.int .i64 count_2)].toArray 3 (0, 0))] :: [(b11, Obj.cells [(Value.int .i64 0), (Value.int .i64 0)].toArray 49 (0, 0))] :: S) w := (ok.pk 4 [3, 2, 1, 0] rfl (by decide))
  refine l_call E go_97 rfl (condition_parser_number__128_w N x0 l1 r2 r3 r4 operand_1 roperand_1 count_2 rcount_2 e13 hG ok) rfl rfl ?_
  rintro _ w ⟨⟨rfl, ok⟩, r14, l15, r16, r17, r18⟩
  refine ⟨_, rfl, fun a E => ?_⟩
  refine l_val E ok (y_build (ps := [(0, .tmp 12)]) (qs := [(0, [(Value.int .i64 r12.1)])]) (cs := [(Value.int .i64 r12.1), (Value.int .i64 0)]) zero_49 places_49 rfl ⟨rfl, rfl, rfl, trivial⟩ rfl) rfl rfl fun a E => ?_
  refine l_alloc E ok zero_49 rfl rfl fun b19 a w E ok => ?_
  refine l_storeB E ok 0 rfl rfl rfl inf_49 rfl rfl ⟨rfl, rfl, trivial⟩ rfl rfl fun w ok => ?_
  refine wpList_nil ?_
  refine t_norm ?_
  refine wp_seq ?_
  refine c_region ?_
  refine l_val E ok (y_fieldAddr fo_49_0 rfl) rfl rfl fun a E => ?_
  refine l_val E ok (y_load one_3 rfl (Holds.own 0 rfl rfl)) rfl rfl fun a E => ?_
  refine l_val E ok (y_fieldAddr fo_49_1 rfl) rfl rfl fun a E => ?_
  refine l_storeB E ok 0 rfl rfl rfl inf_3 rfl rfl ⟨rfl, trivial⟩ rfl rfl fun w ok => ?_
  refine wpList_nil ?_
  refine t_norm ?_
  refine wp_seq ?_
  refine wp_seq ?_
  refine c_region ?_
  refine l_val E ok (y_move rfl) rfl rfl fun a E => ?_
  obtain ⟨r20, e21, hF⟩ := bnd hF
  replace ok : Ok u m0 ([(pb0, Obj.cells [(Value.string (bs r12.2.s)), (Value.int .i64 r12.2.at_), (Value.int .i64 r12.2.relations), (Value.int .i64 r12.2.e)].toArray 88 (0, 0))] :: [(b19, Obj.cells [(Value.int .i64 r12.1), (Value.int .i64 r12.1)].toArray 49 (0, 0))] :: [(b9, Obj.cells [(Value.int .i64 operand_1)].toArray 3 (0, 0))] :: [(b10, Obj.cells [(Value.int .i64 count_2)].toArray 3 (0, 0))] :: [(b11, Obj.cells [(Value.int .i64 0), (Value.int .i64 0)].toArray 49 (0, 0))] :: S) w := (ok.pk 5 [1, 0, 2, 3, 4] rfl (by decide))
  refine l_call E go_68 rfl (condition_parser_next_w N ([46, 46]) (show ([46, 46] : List UInt8).length ≤ LIMS by decide) r12.2 l15 r16 r17 r18 e21 hG ok) rfl rfl ?_
  rintro _ w ⟨⟨rfl, ok⟩, l22, r23, r24, r25⟩
  refine ⟨_, rfl, fun a E => ?_⟩
  refine wpList_nil ?_
  refine t_norm ?_
  refine c_if E rfl (fun hc26 => ?_) (fun hc26 => ?_)
  rotate_left
  · replace hF := cond_f hc26 hF
    refine wp_skip ?_
    refine t_norm ?_
    refine wp_seq ?_
    refine c_region ?_
    refine l_val E ok (y_loadAgg (cs := [(Value.int .i64 r12.1), (Value.int .i64 r12.1)]) agg_49 rfl rfl (Holds.own 1 rfl rfl)) rfl rfl fun a E => ?_
    refine l_storeB E ok 4 rfl rfl rfl inf_49 rfl rfl ⟨rfl, rfl, trivial⟩ rfl rfl fun w ok => ?_
    refine wpList_nil ?_
    refine t_norm ?_
    refine wp_ret ?_
    have hret : condition_parser_span_R u m0 S pb0 x0 ((Span.mk r12.1 r12.1), r20.2) a w := ⟨m0, [(Value.int .i64 r12.1), (Value.int .i64 r12.1)], le_m0, (ok.pk 5 [0] rfl (by decide)), E.d, ⟨rv_c (cs := [(Value.int .i64 r12.1), (Value.int .i64 r12.1)]) E ok rfl agg_49 rfl (Holds.own 4 rfl rfl), trivial⟩, ⟨rfl, r14, r14⟩, l22, r23, r24, r25⟩
    obtain rfl := Option.some.inj hF
    exact fin _ _ hret
  replace hF := cond_t hc26 hF
  refine c_region ?_
  refine l_val E ok (y_move rfl) rfl rfl fun a E => ?_
  refine l_val E ok (y_makeFunc (caps := [.tmp 4, .tmp 8]) rfl) rfl rfl fun a E => ?_
  obtain ⟨r27, e28, hF⟩ := bnd hF
  replace ok : Ok u m0 ([(pb0, Obj.cells [(Value.string (bs r20.2.s)), (Value.int .i64 r20.2.at_), (Value.int .i64 r20.2.relations), (Value.int .i64 r20.2.e)].toArray 88 (0, 0))] :: [(b9, Obj.cells [(Value.int .i64 operand_1)].toArray 3 (0, 0))] :: [(b19, Obj.cells [(Value.int .i64 r12.1), (Value.int .i64 r12.1)].toArray 49 (0, 0))] :: [(b10, Obj.cells [(Value.int .i64 count_2)].toArray 3 (0, 0))] :: [(b11, Obj.cells [(Value.int .i64 0), (Value.int .i64 0)].toArray 49 (0, 0))] :: S) w := (ok.pk 5 [0, 2, 1, 3, 4] rfl (by decide))
  refine l_call E go_97 rfl (condition_parser_number__129_w N r20.2 l22 r23 r24 r25 operand_1 roperand_1 (Span.mk r12.1 r12.1) r14 r14 e28 hG ok) rfl rfl ?_
  rintro _ w ⟨⟨rfl, ok⟩, r29, l30, r31, r32, r33⟩
  refine ⟨_, rfl, fun a E => ?_⟩
  refine l_val E ok (y_fieldAddr fo_49_1 rfl) rfl rfl fun a E => ?_
  refine l_storeB E ok 2 rfl rfl rfl inf_3 rfl rfl ⟨rfl, trivial⟩ rfl rfl fun w ok => ?_
  refine wpList_nil ?_
  refine t_norm ?_
  refine wp_seq ?_
  refine c_region ?_
  refine l_val E ok (y_loadAgg (cs := [(Value.int .i64 r12.1), (Value.int .i64 r27.1)]) agg_49 rfl rfl (Holds.own 2 rfl rfl)) rfl rfl fun a E => ?_
  refine l_storeB E ok 4 rfl rfl rfl inf_49 rfl rfl ⟨rfl, rfl, trivial⟩ rfl rfl fun w ok => ?_
  refine wpList_nil ?_
  refine t_norm ?_
  refine wp_ret ?_
  have hret : condition_parser_span_R u m0 S pb0 x0 ((Span.mk r12.1 r27.1), r27.2) a w := ⟨m0, [(Value.int .i64 r12.1), (Value.int .i64 r27.1)], le_m0, (ok.pk 5 [0] rfl (by decide)), E.d, ⟨rv_c (cs := [(Value.int .i64 r12.1), (Value.int .i64 r27.1)]) E ok rfl agg_49 rfl (Holds.own 4 rfl rfl), trivial⟩, ⟨rfl, r14, r29⟩, l30, r31, r32, r33⟩
  obtain rfl := Option.some.inj hF
  exact fin _ _ hret

end Go.Proofs.YtboacfcnmhnbdaaGreatDoor
