/- The walks of this part: the model's run of each function yields what the plain function says. Printed by gen.py. -/
import Derived.Test.YtdlaobjbjmecnaaExt09d
import Derived.Test.YtdlaobjbjmecnaaWalk09a
import Derived.Test.YtdlaobjbjmecnaaWalk09b
import Derived.Test.YtdlaobjbjmecnaaWalk09c
import Derived.Test.YtdlaobjbjmecnaaChecked
set_option linter.unusedVariables false
namespace Go.Proofs.Ytdlaobjbjmecnaa
open Go.X

def pArr2_Int : Rp Arr2_Int := fun _ cs x => cs = [.int .i64 x.e0, .int .i64 x.e1] ∧ InR .i64 x.e0 ∧ InR .i64 x.e1
theorem mArr2_Int : Mono pArr2_Int := ⟨fun _ h => by
  obtain ⟨e, h0, h1⟩ := h
  exact ⟨e, h0, h1⟩, fun h => by
  obtain ⟨rfl, h0, h1⟩ := h
  exact ⟨rfl, rfl, trivial⟩⟩

theorem Arr2_Int.set_list {a z : Arr2_Int} {i : Int} {x : Int} (h : Arr2_Int.set a i x = some z) : setI a.list i x = some z.list := by
  unfold Arr2_Int.set at h
  cases hs : setI a.list i x with
  | none => rw [hs] at h; cases h
  | some l =>
    rw [hs] at h
    obtain ⟨_, _, hl⟩ := setI_range hs
    have hn : l.length = 2 := by rw [hl, List.length_set]; rfl
    clear hl hs
    match l, hn, h with
    | [x0, x1], _, h => cases h; rfl

theorem agg_75 : aggB Try.prog 75 2 = true := by kernel_rfl
theorem art_75 : ArT Try.prog 75 3 2 1 := ArT.of (by kernel_rfl)
theorem go_44 : goB Try.prog 44 = true := by kernel_rfl
theorem go_45 : goB Try.prog 45 = true := by kernel_rfl
theorem go_47 : goB Try.prog 47 = true := by kernel_rfl
theorem inf_75 : ∃ i, Try.prog.info? 75 = some i ∧ i.size = 2 := ⟨_, rfl, by kernel_rfl⟩
theorem sl_77 : SlT Try.prog 77 75 2 := SlT.of (by kernel_rfl)
theorem zero_75 : zeroB Try.prog 75 = some [(Value.int .i64 0), (Value.int .i64 0)] := by kernel_rfl

theorem keyR_75 : KeyR Try.prog 75 (aggK pArr2_Int) := keyR_agg (n := 2) keyLaid (of_decide_eq_true (by kernel_rfl)) (by kernel_rfl) (of_decide_eq_true (by kernel_rfl)) (of_decide_eq_true (by kernel_rfl)) (by kernel_rfl) (by kernel_rfl)
  (fun {m cs x} h => by
    obtain ⟨rfl, h0, h1⟩ := h
    rfl)
  (fun {m cs x} d h => by
    obtain ⟨rfl, h0, h1⟩ := h
    exact kl_arr (f := (Value.int .i64)) (xs := Arr2_Int.list x) Try.underlying75 (by kernel_rfl) (by kernel_rfl) rfl rfl (fun y hy => by have hq := AllP.mem (q := (InR .i64)) (xs := Arr2_Int.list x) ⟨h0, h1, trivial⟩ y hy; exact kl_int Try.underlying3 hq))
  (fun {m m' cs cs' x x'} h h' => by
    obtain ⟨rfl, _, _⟩ := h
    obtain ⟨rfl, _, _⟩ := h'
    constructor
    · intro e; simp at e; rcases x with ⟨y0, y1⟩; rcases x' with ⟨y2, y3⟩; simp_all
    · intro e; rw [e])

def automaton_And_1_R (u : World) (m0 : Mem) (S : Segs) (r : Bool) (a : Act) (w : World) : Prop :=
  Ok u m0 S w ∧ a.defers = [] ∧ RVs Try.prog a w [.t 4 (.bool r)]
set_option maxHeartbeats 4000000 in
set_option maxRecDepth 100000 in
theorem automaton_And_1_w {u : World} {m0 : Mem} {S : Segs} {w : World} (N : Nat) (x_0 : Bool) (y_1 : Bool) {r : Bool} (hF : automaton_And_1 N x_0 y_1 = some r) (ok : Ok u m0 S w) :
    Calls Try.prog 45 [Value.bool x_0, Value.bool y_1].toArray w fun e w' => (e = .returned (.bool r) ∧ Ok u m0 S w') := by
  have le_m0 := Mem.le.refl m0
  unfold automaton_And_1 at hF
  have fin : ∀ a w, automaton_And_1_R u m0 S r a w → bodyPost Try.prog Try.f45 (fun e w' => (e = .returned (.bool r) ∧ Ok u m0 S w')) .ret a w := by
    intro a w h
    obtain ⟨ok, hd, hrv⟩ := h
    exact c_ret2 [.t 4 (.bool r)] hd rfl hrv ⟨rfl, ok⟩
  refine enter Try.func45 rfl rfl rfl fun a E => ?_
  refine wp_seq ?_
  refine c_region ?_
  refine l_val E ok (y_assign rfl) rfl rfl fun a E => ?_
  refine wpList_nil ?_
  refine t_norm ?_
  refine wp_seq ?_
  refine c_region ?_
  refine l_val E ok (y_move rfl) rfl rfl fun a E => ?_
  refine l_val E ok (y_move rfl) rfl rfl fun a E => ?_
  refine bsplit x_0 (fun hc1 => ?_) (fun hc1 => ?_)
  · replace hF := cond_t hc1 hF
    replace E := E.upd 6 hc1 rfl
    refine l_val E ok (y_move rfl) rfl rfl fun a E => ?_
    refine l_val E ok (y_pickT rfl rfl) rfl rfl fun a E => ?_
    refine l_val E ok (y_assign rfl) rfl rfl fun a E => ?_
    refine wpList_nil ?_
    refine t_norm ?_
    refine wp_ret ?_
    have hret : automaton_And_1_R u m0 S y_1 a w := ⟨ok, E.d, ⟨rv_t E rfl, trivial⟩⟩
    obtain rfl := Option.some.inj hF
    exact fin _ _ hret
  replace hF := cond_f hc1 hF
  replace E := E.upd 6 hc1 rfl
  refine l_skip E rfl rfl fun a E => ?_
  refine l_val E ok (y_pickF rfl rfl) rfl rfl fun a E => ?_
  refine l_val E ok (y_assign rfl) rfl rfl fun a E => ?_
  refine wpList_nil ?_
  refine t_norm ?_
  refine wp_ret ?_
  have hret : automaton_And_1_R u m0 S false a w := ⟨ok, E.d, ⟨rv_t E rfl, trivial⟩⟩
  obtain rfl := Option.some.inj hF
  exact fin _ _ hret

def automaton_product__45_R (u : World) (m0 : Mem) (S : Segs) (r : DFA × Int) (a : Act) (w : World) : Prop :=
  ∃ m1 v0, m0.le m1 ∧ Ok u m1 S w ∧ a.defers = [] ∧ RVs Try.prog a w [.c 6 29 (.agg v0.toArray), .t 7 (.int .i64 r.2)] ∧ pDFA m1 v0 r.1 ∧ InR .i64 r.2
set_option maxHeartbeats 4000000 in
set_option maxRecDepth 100000 in
theorem automaton_product__45_w {u : World} {m0 : Mem} {S : Segs} {w : World} (N : Nat) (va_0 : List Value) (a_0 : DFA) (ha_0 : pDFA m0 va_0 a_0) (vb_1 : List Value) (b_1 : DFA) (hb_1 : pDFA m0 vb_1 b_1) {r : DFA × Int} (hF : automaton_product__45 N a_0 b_1 = some r) (ok : Ok u m0 S w) :
    Calls Try.prog 44 [.agg va_0.toArray, .agg vb_1.toArray, .func (.func 45) #[] #[]].toArray w fun e w' => ∃ m1 v0, e = .returned (.tuple [(.agg v0.toArray), (.int .i64 r.2)].toArray) ∧ m0.le m1 ∧ Ok u m1 S w' ∧ pDFA m1 v0 r.1 ∧ InR .i64 r.2 := by
  obtain ⟨c2, c4, rfl, r1, h3, h5⟩ := ha_0
  obtain ⟨c7, c9, rfl, r6, h8, h10⟩ := hb_1
  have le_m0 := Mem.le.refl m0
  unfold automaton_product__45 at hF
  have fin : ∀ a w, automaton_product__45_R u m0 S r a w → bodyPost Try.prog Try.f44 (fun e w' => ∃ m1 v0, e = .returned (.tuple [(.agg v0.toArray), (.int .i64 r.2)].toArray) ∧ m0.le m1 ∧ Ok u m1 S w' ∧ pDFA m1 v0 r.1 ∧ InR .i64 r.2) .ret a w := by
    intro a w h
    obtain ⟨m1, v0, hle, ok, hd, hrv, h0, h1⟩ := h
    exact c_ret2 [.c 6 29 (.agg v0.toArray), .t 7 (.int .i64 r.2)] hd rfl hrv ⟨m1, v0, rfl, hle, ok, h0, h1⟩
  refine enter Try.func44 rfl rfl rfl fun a E => ?_
  refine wp_seq ?_
  refine c_region ?_
  refine l_box E ok rfl rfl rfl fun b11 a w E ok => ?_
  refine l_box E ok rfl rfl rfl fun b12 a w E ok => ?_
  refine l_alloc E ok zero_29 rfl rfl fun b13 a w E ok => ?_
  refine l_val E ok (y_assign rfl) rfl rfl fun a E => ?_
  refine wpList_nil ?_
  refine t_norm ?_
  refine wp_seq ?_
  refine wp_seq ?_
  refine c_region ?_
  refine l_val E ok (y_loadAgg (cs := [(Value.int .i64 a_0.Start), c2, c4]) agg_29 rfl rfl (Holds.own 2 rfl rfl)) rfl rfl fun a E => ?_
  obtain ⟨r14, e15, hF⟩ := bnd hF
  refine l_call E go_13 rfl (automaton_Valid_w N _ a_0 ⟨_, _, rfl, r1, h3, h5⟩ e15 ok) rfl rfl ?_
  rintro _ w ⟨rfl, ok⟩
  refine ⟨_, rfl, fun a E => ?_⟩
  refine l_val E ok (y_not rfl) rfl rfl fun a E => ?_
  refine l_val E ok (y_move rfl) rfl rfl fun a E => ?_
  refine bsplit (!r14) (fun hc16 => ?_) (fun hc16 => ?_)
  · replace hF := cond_t hc16 hF
    replace E := E.upd 22 hc16 rfl
    refine l_skip E rfl rfl fun a E => ?_
    refine l_skip E rfl rfl fun a E => ?_
    refine l_skip E rfl rfl fun a E => ?_
    refine l_val E ok (y_pickT rfl rfl) rfl rfl fun a E => ?_
    refine wpList_nil ?_
    refine t_norm ?_
    refine c_if E rfl (fun _ => ?_) (fun h => by cases h)
    refine wp_seq ?_
    refine c_region ?_
    refine l_val E ok (y_build (ps := []) (qs := []) (cs := [(Value.int .i64 0), (Value.slice none 0 0), (Value.slice none 0 0)]) zero_29 places_29 rfl trivial rfl) rfl rfl fun a E => ?_
    refine l_storeB E ok 0 rfl rfl rfl inf_29 rfl rfl ⟨rfl, rfl, rfl, trivial⟩ rfl rfl fun w ok => ?_
    refine l_val E ok (y_assign rfl) rfl rfl fun a E => ?_
    refine wpList_nil ?_
    refine t_norm ?_
    refine wp_ret ?_
    refine t_ret ?_
    have hret : automaton_product__45_R u m0 S ((DFA.mk 0 ([]) ([])), 1) a w := ⟨m0, [(Value.int .i64 0), (Value.slice none 0 0), (Value.slice none 0 0)], le_m0, ok.drop.drop.drop, E.d, ⟨rv_c (cs := [(Value.int .i64 0), (Value.slice none 0 0), (Value.slice none 0 0)]) E ok rfl agg_29 rfl (Holds.own 0 rfl rfl), rv_t E rfl, trivial⟩, ⟨_, _, rfl, (show InR .i64 0 by decide), pL_nil, pL_nil⟩, (show InR .i64 (1) by decide)⟩
    obtain rfl := Option.some.inj hF
    exact fin _ _ hret
  replace hF := cond_f hc16 hF
  replace E := E.upd 22 hc16 rfl
  refine l_val E ok (y_loadAgg (cs := [(Value.int .i64 b_1.Start), c7, c9]) agg_29 rfl rfl (Holds.own 1 rfl rfl)) rfl rfl fun a E => ?_
  obtain ⟨r17, e18, hF⟩ := bnd hF
  refine l_call E go_13 rfl (automaton_Valid_w N _ b_1 ⟨_, _, rfl, r6, h8, h10⟩ e18 ok) rfl rfl ?_
  rintro _ w ⟨rfl, ok⟩
  refine ⟨_, rfl, fun a E => ?_⟩
  refine l_val E ok (y_not rfl) rfl rfl fun a E => ?_
  refine l_val E ok (y_pickF rfl rfl) rfl rfl fun a E => ?_
  refine wpList_nil ?_
  refine t_norm ?_
  refine c_if E rfl (fun hc19 => ?_) (fun hc19 => ?_)
  · replace hF := cond_t hc19 hF
    refine wp_seq ?_
    refine c_region ?_
    refine l_val E ok (y_build (ps := []) (qs := []) (cs := [(Value.int .i64 0), (Value.slice none 0 0), (Value.slice none 0 0)]) zero_29 places_29 rfl trivial rfl) rfl rfl fun a E => ?_
    refine l_storeB E ok 0 rfl rfl rfl inf_29 rfl rfl ⟨rfl, rfl, rfl, trivial⟩ rfl rfl fun w ok => ?_
    refine l_val E ok (y_assign rfl) rfl rfl fun a E => ?_
    refine wpList_nil ?_
    refine t_norm ?_
    refine wp_ret ?_
    refine t_ret ?_
    have hret : automaton_product__45_R u m0 S ((DFA.mk 0 ([]) ([])), 1) a w := ⟨m0, [(Value.int .i64 0), (Value.slice none 0 0), (Value.slice none 0 0)], le_m0, ok.drop.drop.drop, E.d, ⟨rv_c (cs := [(Value.int .i64 0), (Value.slice none 0 0), (Value.slice none 0 0)]) E ok rfl agg_29 rfl (Holds.own 0 rfl rfl), rv_t E rfl, trivial⟩, ⟨_, _, rfl, (show InR .i64 0 by decide), pL_nil, pL_nil⟩, (show InR .i64 (1) by decide)⟩
    obtain rfl := Option.some.inj hF
    exact fin _ _ hret
  replace hF := cond_f hc19 hF
  refine wp_skip ?_
  refine t_norm ?_
  refine wp_seq ?_
  refine c_region ?_
  refine l_makeMap (aggK pArr2_Int) (oneV (pI .i64)) E ok rfl rfl fun c20 M21 a w E ok h22 => ?_
  refine l_val E ok (y_fieldAddr fo_29_0 rfl) rfl rfl fun a E => ?_
  refine l_val E ok (y_load one_3 rfl (Holds.own 3 rfl rfl)) rfl rfl fun a E => ?_
  refine l_val E ok (y_fieldAddr fo_29_0 rfl) rfl rfl fun a E => ?_
  refine l_val E ok (y_load one_3 rfl (Holds.own 2 rfl rfl)) rfl rfl fun a E => ?_
  refine l_val E ok (y_buildA (ps := [(0, .tmp 30), (1, .tmp 32)]) (qs := [(0, [(Value.int .i64 a_0.Start)]), (1, [(Value.int .i64 b_1.Start)])]) (cs := [(Value.int .i64 a_0.Start), (Value.int .i64 b_1.Start)]) zero_75 art_75 rfl ⟨rfl, rfl, rfl, ⟨rfl, rfl, rfl, trivial⟩⟩ rfl) rfl rfl fun a E => ?_
  obtain ⟨l23, e24, hF⟩ := bnd hF
  refine l_mset (.inr rfl) E ok 0 keyR_75 Try.underlying76 h22 rfl rfl rfl rfl ⟨m0, _, rfl, ⟨rfl, r1, r6⟩⟩ (pI_mk (show InR .i64 (0) by decide)) e24 rfl fun M25 w ok h26 => ?_
  refine l_val E ok (y_move rfl) rfl rfl fun a E => ?_
  refine l_val E ok (y_assign rfl) rfl rfl fun a E => ?_
  refine wpList_nil ?_
  refine t_norm ?_
  refine wp_seq ?_
  refine c_region ?_
  refine l_val E ok (y_fieldAddr fo_29_0 rfl) rfl rfl fun a E => ?_
  refine l_val E ok (y_load one_3 rfl (Holds.own 3 rfl rfl)) rfl rfl fun a E => ?_
  refine l_val E ok (y_fieldAddr fo_29_0 rfl) rfl rfl fun a E => ?_
  refine l_val E ok (y_load one_3 rfl (Holds.own 2 rfl rfl)) rfl rfl fun a E => ?_
  refine l_val E ok (y_buildA (ps := [(0, .tmp 36), (1, .tmp 38)]) (qs := [(0, [(Value.int .i64 a_0.Start)]), (1, [(Value.int .i64 b_1.Start)])]) (cs := [(Value.int .i64 a_0.Start), (Value.int .i64 b_1.Start)]) zero_75 art_75 rfl ⟨rfl, rfl, rfl, ⟨rfl, rfl, rfl, trivial⟩⟩ rfl) rfl rfl fun a E => ?_
  refine l_slit (R := pArr2_Int) (xo := [.tmp 39]) (xs := ([(Arr2_Int.mk a_0.Start b_1.Start)] : List (Arr2_Int))) E ok sl_77 zero_75 rfl ⟨⟨_, rfl, rfl, ⟨rfl, r1, r6⟩⟩, trivial⟩ rfl rfl rfl rfl fun c27 M28 a w E ok h29 => ?_
  refine l_val E ok (y_assign rfl) rfl rfl fun a E => ?_
  refine wpList_nil ?_
  refine t_norm ?_
  refine wp_seq ?_
  refine c_region ?_
  refine l_alloc E ok zero_29 rfl rfl fun b30 a w E ok => ?_
  refine wpList_nil ?_
  refine t_norm ?_
  refine wp_seq ?_
  refine wp_seq ?_
  refine c_region ?_
  refine l_val E ok (y_assign rfl) rfl rfl fun a E => ?_
  refine wpList_nil ?_
  refine t_norm ?_
  refine wp_block ?_
  obtain ⟨M49, ok, h50⟩ := nilrow (e := 56) (k := 1) (R := (pL 1 (pI .i64))) ok
  obtain ⟨M51, ok, h52⟩ := nilrow (e := 4) (k := 1) (R := pB) ok
  obtain ⟨o53, hL, hF⟩ := bnd hF
  refine c_loop _ (fun (s : (List (Arr2_Int)) × Int × DFA × (List (Arr2_Int × Int))) a w => ∃ m54 c55 M56 c60 M61 c63 M64 c66 M67, m0.le m54 ∧ Ok u m54 (M64 :: M61 :: [(b30, Obj.cells [(Value.int .i64 s.2.2.1.Start), c60, c63].toArray 29 (0, 0))] :: M56 :: M67 :: [(b13, Obj.cells [(Value.int .i64 0), (Value.slice none 0 0), (Value.slice none 0 0)].toArray 29 (0, 0))] :: [(b12, Obj.cells [(Value.int .i64 b_1.Start), c7, c9].toArray 29 (0, 0))] :: [(b11, Obj.cells [(Value.int .i64 a_0.Start), c2, c4].toArray 29 (0, 0))] :: S) w ∧ Env 131 a [(2, (Value.func (.func 45) #[] #[])), (3, (Value.pointer (some ⟨b11, 0, none⟩))), (4, (Value.pointer (some ⟨b12, 0, none⟩))), (6, (Value.pointer (some ⟨b13, 0, none⟩))), (8, c66), (9, c55), (10, (Value.pointer (some ⟨b30, 0, none⟩))), (11, (Value.int .i64 s.2.1))] ∧ ORow 75 2 pArr2_Int m54 c55 s.1 M56 ∧ InR .i64 s.2.1 ∧ InR .i64 s.2.2.1.Start ∧ ORow 56 1 (pL 1 (pI .i64)) m54 c60 s.2.2.1.Next M61 ∧ ORow 4 1 pB m54 c63 s.2.2.1.Accept M64 ∧ OMap (aggK pArr2_Int) (oneV (pI .i64)) m54 c66 s.2.2.2 M67) (fun (b : DFA) e a w => e = (.exit 0) ∧ ∃ m400 c402 M403 c405 M406, m0.le m400 ∧ Ok u m400 (M406 :: M403 :: [(b30, Obj.cells [(Value.int .i64 b.Start), c402, c405].toArray 29 (0, 0))] :: [(b13, Obj.cells [(Value.int .i64 0), (Value.slice none 0 0), (Value.slice none 0 0)].toArray 29 (0, 0))] :: [(b12, Obj.cells [(Value.int .i64 b_1.Start), c7, c9].toArray 29 (0, 0))] :: [(b11, Obj.cells [(Value.int .i64 a_0.Start), c2, c4].toArray 29 (0, 0))] :: S) w ∧ Env 131 a [(6, (Value.pointer (some ⟨b13, 0, none⟩))), (10, (Value.pointer (some ⟨b30, 0, none⟩)))] ∧ InR .i64 b.Start ∧ ORow 56 1 (pL 1 (pI .i64)) m400 c402 b.Next M403 ∧ ORow 4 1 pB m400 c405 b.Accept M406) ?_ ?_ N _ a w hL ⟨m0, c27, M28, (Value.slice none 0 0), M49, (Value.slice none 0 0), M51, c20, M25, Mem.le.refl _, ok, E.keep [2, 3, 4, 6, 8, 9, 10, 11], h29, (show InR .i64 (0) by decide), (show InR .i64 0 by decide), h50, h52, h26⟩
  rotate_left
  · intro e a w _ hO
    obtain ⟨rfl, m377, c379, M380, c382, M383, hle, ok, E, r378, h381, h384⟩ := hO
    have le_m0 := le_m0.trans hle
    have h3 := (mL (mL (mI .i64))).up hle h3
    have h5 := (mL mB).up hle h5
    have h8 := (mL (mL (mI .i64))).up hle h8
    have h10 := (mL mB).up hle h10
    refine b_hit ?_
    refine t_norm ?_
    refine wp_seq ?_
    refine c_region ?_
    refine l_val E ok (y_loadAgg (cs := [(Value.int .i64 o53.Start), c379, c382]) agg_29 rfl rfl (Holds.own 2 rfl rfl)) rfl rfl fun a E => ?_
    obtain ⟨m385, hle, ok, hfz⟩ := (ok.frs 1 rfl).freeze
    have h386 := ORow.froz (mL (mI .i64)) h381 hle hfz (by decide)
    have le_m0 := le_m0.trans hle
    have h3 := (mL (mL (mI .i64))).up hle h3
    have h5 := (mL mB).up hle h5
    have h8 := (mL (mL (mI .i64))).up hle h8
    have h10 := (mL mB).up hle h10
    have h384 := ORow.up mB hle h384
    obtain ⟨m387, hle, ok, hfz⟩ := (ok.frs 0 rfl).freeze
    have h388 := ORow.froz mB h384 hle hfz (by decide)
    have le_m0 := le_m0.trans hle
    have h3 := (mL (mL (mI .i64))).up hle h3
    have h5 := (mL mB).up hle h5
    have h8 := (mL (mL (mI .i64))).up hle h8
    have h10 := (mL mB).up hle h10
    have h386 := (mL (mL (mI .i64))).up hle h386
    obtain ⟨r389, e390, hF⟩ := bnd hF
    refine l_call E go_41 rfl (automaton_minimal_w N _ o53 ⟨_, _, rfl, r378, h386, h388⟩ e390 ok) rfl rfl ?_
    rintro _ w ⟨m391, vs392, rfl, hle, ok, h393⟩
    have le_m0 := le_m0.trans hle
    have h3 := (mL (mL (mI .i64))).up hle h3
    have h5 := (mL mB).up hle h5
    have h8 := (mL (mL (mI .i64))).up hle h8
    have h10 := (mL mB).up hle h10
    have h386 := (mL (mL (mI .i64))).up hle h386
    have h388 := (mL mB).up hle h388
    obtain ⟨c395, c397, rfl, r394, h396, h398⟩ := h393
    refine ⟨_, rfl, fun a E => ?_⟩
    refine l_storeB E ok 0 rfl rfl rfl inf_29 rfl rfl ⟨rfl, (pL_one h396), (pL_one h398), trivial⟩ rfl rfl fun w ok => ?_
    refine wpList_nil ?_
    refine t_norm ?_
    refine wp_seq ?_
    refine wp_seq ?_
    refine c_region ?_
    refine l_val E ok (y_fieldAddr fo_29_1 rfl) rfl rfl fun a E => ?_
    refine l_val E ok (y_load one_22 rfl (Holds.own 0 rfl rfl)) rfl rfl fun a E => ?_
    refine l_val E ok (y_lenL sl_22 h396 rfl) rfl rfl fun a E => ?_
    refine l_val E ok (y_gtr rfl rfl) rfl rfl fun a E => ?_
    refine wpList_nil ?_
    refine t_norm ?_
    refine c_if E rfl (fun hc399 => ?_) (fun hc399 => ?_)
    · replace hF := cond_t hc399 hF
      refine wp_seq ?_
      refine c_region ?_
      refine l_val E ok (y_build (ps := []) (qs := []) (cs := [(Value.int .i64 0), (Value.slice none 0 0), (Value.slice none 0 0)]) zero_29 places_29 rfl trivial rfl) rfl rfl fun a E => ?_
      refine l_storeB E ok 1 rfl rfl rfl inf_29 rfl rfl ⟨rfl, rfl, rfl, trivial⟩ rfl rfl fun w ok => ?_
      refine l_val E ok (y_assign rfl) rfl rfl fun a E => ?_
      refine wpList_nil ?_
      refine t_norm ?_
      refine wp_ret ?_
      refine t_ret ?_
      have hret : automaton_product__45_R u m0 S ((DFA.mk 0 ([]) ([])), 6) a w := ⟨m391, [(Value.int .i64 0), (Value.slice none 0 0), (Value.slice none 0 0)], le_m0, ok.drop.drop.drop.drop, E.d, ⟨rv_c (cs := [(Value.int .i64 0), (Value.slice none 0 0), (Value.slice none 0 0)]) E ok rfl agg_29 rfl (Holds.own 1 rfl rfl), rv_t E rfl, trivial⟩, ⟨_, _, rfl, (show InR .i64 0 by decide), pL_nil, pL_nil⟩, (show InR .i64 (6) by decide)⟩
      obtain rfl := Option.some.inj hF
      exact fin _ _ hret
    replace hF := cond_f hc399 hF
    refine wp_skip ?_
    refine t_norm ?_
    refine wp_seq ?_
    refine c_region ?_
    refine l_val E ok (y_loadAgg (cs := [(Value.int .i64 r389.Start), c395, c397]) agg_29 rfl rfl (Holds.own 0 rfl rfl)) rfl rfl fun a E => ?_
    refine l_storeB E ok 1 rfl rfl rfl inf_29 rfl rfl ⟨rfl, (pL_one h396), (pL_one h398), trivial⟩ rfl rfl fun w ok => ?_
    refine l_val E ok (y_assign rfl) rfl rfl fun a E => ?_
    refine wpList_nil ?_
    refine t_norm ?_
    refine wp_ret ?_
    have hret : automaton_product__45_R u m0 S (r389, 0) a w := ⟨m391, [(Value.int .i64 r389.Start), c395, c397], le_m0, ok.drop.drop.drop.drop, E.d, ⟨rv_c (cs := [(Value.int .i64 r389.Start), c395, c397]) E ok rfl agg_29 rfl (Holds.own 1 rfl rfl), rv_t E rfl, trivial⟩, ⟨_, _, rfl, r394, h396, h398⟩, (show InR .i64 (0) by decide)⟩
    obtain rfl := Option.some.inj hF
    exact fin _ _ hret
  rintro ⟨pairs_69, i_70, x_71, number_72⟩ a w r ⟨m73, c74, M75, c79, M80, c82, M83, c85, M86, hle, ok, E, h76, r77, r78, h81, h84, h87⟩ hF
  replace hF : automaton_product__45_b1 N a_0 b_1 pairs_69 i_70 x_71 number_72 = some r := hF
  unfold automaton_product__45_b1 at hF
  have le_m0 := le_m0.trans hle
  have h3 := (mL (mL (mI .i64))).up hle h3
  have h5 := (mL mB).up hle h5
  have h8 := (mL (mL (mI .i64))).up hle h8
  have h10 := (mL mB).up hle h10
  refine wp_seq ?_
  refine wp_seq ?_
  refine c_region ?_
  refine l_val E ok (y_move rfl) rfl rfl fun a E => ?_
  refine l_val E ok (y_move rfl) rfl rfl fun a E => ?_
  refine l_val E ok (y_lenR sl_77 h76 rfl) rfl rfl fun a E => ?_
  refine l_val E ok (y_lss rfl rfl) rfl rfl fun a E => ?_
  refine wpList_nil ?_
  refine t_norm ?_
  refine c_if E rfl (fun hc88 => ?_) (fun hc88 => ?_)
  rotate_left
  · replace hF := cond_f hc88 hF
    refine wp_exit ?_
    refine t_exit ?_
    obtain rfl := Option.some.inj hF
    exact step_o (by nofun) (⟨rfl, ⟨m73, c79, M80, c82, M83, le_m0, (ok.pk 8 [0, 1, 2, 5, 6, 7] rfl (by decide)), E.keep [6, 10], r78, h81, h84⟩⟩)
  replace hF := cond_t hc88 hF
  refine wp_skip ?_
  refine t_norm ?_
  refine wp_seq ?_
  refine wp_block ?_
  refine wp_seq ?_
  refine c_draw (by kernel_rfl) (by kernel_rfl) ok ?_
  refine q_val E (y_move rfl) rfl rfl fun a E => ?_
  refine q_val E (y_move rfl) rfl rfl fun a E => ?_
  obtain ⟨x89, e90, hF⟩ := bnd hF
  obtain ⟨b91, o92, hp93, yy94⟩ := orowAt sl_77 h76 e90 (P := Try.prog) (X := .tmp 47) (I := .tmp 48) (kd := .i64) (ev_of E rfl) (ev_of E rfl)
  refine q_val E (yy94 _ _) rfl rfl fun a E => ?_
  refine q_val E (y_arAt art_75 rfl rfl (by decide) (by decide)) rfl rfl fun a E => ?_
  obtain ⟨es95, hl96, rr97, hh98⟩ := orowGet h76 e90 hp93 (by decide)
  obtain ⟨rfl, r99, r100⟩ := rr97
  refine q_val E (y_load one_3 rfl (Holds.sub 0 1 (hh98 _ _ _ 3 rfl))) rfl rfl fun a E => ?_
  refine q_val E (y_move rfl) rfl rfl fun a E => ?_
  refine q_val E (y_move rfl) rfl rfl fun a E => ?_
  obtain ⟨x101, e102, hF⟩ := bnd hF
  obtain ⟨b103, o104, hp105, yy106⟩ := orowAt sl_77 h76 e102 (P := Try.prog) (X := .tmp 52) (I := .tmp 53) (kd := .i64) (ev_of E rfl) (ev_of E rfl)
  refine q_val E (yy106 _ _) rfl rfl fun a E => ?_
  refine q_val E (y_arAt art_75 rfl rfl (by decide) (by decide)) rfl rfl fun a E => ?_
  obtain ⟨es107, hl108, rr109, hh110⟩ := orowGet h76 e102 hp105 (by decide)
  obtain ⟨rfl, r111, r112⟩ := rr109
  refine q_val E (y_load one_3 rfl (Holds.sub 1 1 (hh110 _ _ _ 3 rfl))) rfl rfl fun a E => ?_
  refine q_val E (y_assign rfl) rfl rfl fun a E => ?_
  refine q_val E (y_assign rfl) rfl rfl fun a E => ?_
  refine wpQuiet_nil ?_
  intro w ok
  refine t_norm ?_
  refine wp_seq ?_
  refine c_region ?_
  obtain ⟨l113, e114, hF⟩ := bnd hF
  refine l_make (R := (pI .i64)) E ok sl_56 zero_3 rfl (pI_mk (show InR .i64 0 by decide)) rfl e114 rfl rfl fun c115 M116 a w E ok h117 => ?_
  refine l_val E ok (y_assign rfl) rfl rfl fun a E => ?_
  refine wpList_nil ?_
  refine t_norm ?_
  refine wp_seq ?_
  refine wp_seq ?_
  refine c_region ?_
  refine l_val E ok (y_move rfl) rfl rfl fun a E => ?_
  refine wpList_nil ?_
  refine t_norm ?_
  refine wp_block ?_
  obtain ⟨o132, hL, hF⟩ := bnd hF
  refine c_loop _ (fun (s : (List (Arr2_Int)) × Int × (List (Arr2_Int × Int)) × (List (Int))) a w => ∃ c133 M134 c137 M138 c140 M141, Ok u m73 (M141 :: M83 :: M80 :: [(b30, Obj.cells [(Value.int .i64 x_71.Start), c79, c82].toArray 29 (0, 0))] :: M134 :: M138 :: [(b13, Obj.cells [(Value.int .i64 0), (Value.slice none 0 0), (Value.slice none 0 0)].toArray 29 (0, 0))] :: [(b12, Obj.cells [(Value.int .i64 b_1.Start), c7, c9].toArray 29 (0, 0))] :: [(b11, Obj.cells [(Value.int .i64 a_0.Start), c2, c4].toArray 29 (0, 0))] :: S) w ∧ Env 131 a [(2, (Value.func (.func 45) #[] #[])), (3, (Value.pointer (some ⟨b11, 0, none⟩))), (4, (Value.pointer (some ⟨b12, 0, none⟩))), (6, (Value.pointer (some ⟨b13, 0, none⟩))), (8, c137), (9, c133), (10, (Value.pointer (some ⟨b30, 0, none⟩))), (11, (Value.int .i64 i_70)), (12, (Value.int .i64 x89.e0)), (13, (Value.int .i64 x101.e1)), (14, c140), (58, (Value.int .i64 s.2.1))] ∧ ORow 75 2 pArr2_Int m73 c133 s.1 M134 ∧ InR .i64 s.2.1 ∧ OMap (aggK pArr2_Int) (oneV (pI .i64)) m73 c137 s.2.2.1 M138 ∧ ORow 3 1 (pI .i64) m73 c140 s.2.2.2 M141) (fun (b : ((List (Arr2_Int × Int)) × (List (Arr2_Int)) × (List (Int)))) e a w => e = (.exit 2) ∧ ∃ c368 M369 c371 M372 c374 M375, Ok u m73 (M375 :: M83 :: M80 :: [(b30, Obj.cells [(Value.int .i64 x_71.Start), c79, c82].toArray 29 (0, 0))] :: M372 :: M369 :: [(b13, Obj.cells [(Value.int .i64 0), (Value.slice none 0 0), (Value.slice none 0 0)].toArray 29 (0, 0))] :: [(b12, Obj.cells [(Value.int .i64 b_1.Start), c7, c9].toArray 29 (0, 0))] :: [(b11, Obj.cells [(Value.int .i64 a_0.Start), c2, c4].toArray 29 (0, 0))] :: S) w ∧ Env 131 a [(2, (Value.func (.func 45) #[] #[])), (3, (Value.pointer (some ⟨b11, 0, none⟩))), (4, (Value.pointer (some ⟨b12, 0, none⟩))), (6, (Value.pointer (some ⟨b13, 0, none⟩))), (8, c368), (9, c371), (10, (Value.pointer (some ⟨b30, 0, none⟩))), (11, (Value.int .i64 i_70)), (12, (Value.int .i64 x89.e0)), (13, (Value.int .i64 x101.e1)), (14, c374)] ∧ OMap (aggK pArr2_Int) (oneV (pI .i64)) m73 c368 b.1 M369 ∧ ORow 75 2 pArr2_Int m73 c371 b.2.1 M372 ∧ ORow 3 1 (pI .i64) m73 c374 b.2.2 M375) ?_ ?_ N _ a w hL ⟨c74, M75, c85, M86, c115, M116, ok, E.keep [2, 3, 4, 6, 8, 9, 10, 11, 12, 13, 14, 58], h76, (show InR .i64 (0) by decide), h87, h117⟩
  rotate_left
  · as_aux_lemma =>
      intro e a w _ hO
      obtain ⟨rfl, c286, M287, c289, M290, c292, M293, ok, E, h288, h291, h294⟩ := hO
      refine b_hit ?_
      refine t_norm ?_
      refine wp_seq ?_
      refine c_region ?_
      refine l_val E ok (y_fieldAddr fo_29_1 rfl) rfl rfl fun a E => ?_
      refine l_val E ok (y_load one_22 rfl (Holds.own 3 rfl rfl)) rfl rfl fun a E => ?_
      refine l_val E ok (y_move rfl) rfl rfl fun a E => ?_
      obtain ⟨m295, hle, ok, hfz⟩ := (ok.frs 0 rfl).freeze
      have h296 := ORow.froz (mI .i64) h294 hle hfz (by decide)
      have le_m0 := le_m0.trans hle
      have h3 := (mL (mL (mI .i64))).up hle h3
      have h5 := (mL mB).up hle h5
      have h8 := (mL (mL (mI .i64))).up hle h8
      have h10 := (mL mB).up hle h10
      have h81 := ORow.up (mL (mI .i64)) hle h81
      have h84 := ORow.up mB hle h84
      have h288 := OMap.up (monoOne (mI .i64)) hle h288
      have h291 := ORow.up mArr2_Int hle h291
      refine l_slit (R := (pL 1 (pI .i64))) (xo := [.tmp 102]) (xs := ([o132.2.2] : List (List (Int)))) E ok sl_22 zero_56 rfl ⟨⟨_, (pL_cells h296), rfl, h296⟩, trivial⟩ rfl rfl rfl rfl fun c297 M298 a w E ok h299 => ?_
      obtain ⟨l300, e301, hF⟩ := bnd hF
      refine l_app (R := (pL 1 (pI .i64))) E ok 2 (mL (mI .i64)) sl_22 Try.underlying22 rfl h81 (SrcOK.ofRow h299 0 rfl ok) e301 ⟨_, zero_56, rfl⟩ rfl rfl rfl rfl fun c302 M303 a w E ok h304 => ?_
      refine l_val E ok (y_fieldAddr fo_29_1 rfl) rfl rfl fun a E => ?_
      refine l_storeB E ok 3 rfl rfl rfl inf_22 (ORow.cells h304) rfl ⟨(ORow.one h304), trivial⟩ rfl rfl fun w ok => ?_
      refine wpList_nil ?_
      refine t_norm ?_
      obtain ⟨o305, hJ, hF⟩ := bnd hF
      refine c_mono (Q' := fun e a w => e = .normal ∧ ∃ c307 M308 c310 M311, Ok u m295 (M298 :: M311 :: M308 :: [(b30, Obj.cells [(Value.int .i64 o305.Start), c307, c310].toArray 29 (0, 0))] :: M290 :: M287 :: [(b13, Obj.cells [(Value.int .i64 0), (Value.slice none 0 0), (Value.slice none 0 0)].toArray 29 (0, 0))] :: [(b12, Obj.cells [(Value.int .i64 b_1.Start), c7, c9].toArray 29 (0, 0))] :: [(b11, Obj.cells [(Value.int .i64 a_0.Start), c2, c4].toArray 29 (0, 0))] :: S) w ∧ Env 131 a [(2, (Value.func (.func 45) #[] #[])), (3, (Value.pointer (some ⟨b11, 0, none⟩))), (4, (Value.pointer (some ⟨b12, 0, none⟩))), (6, (Value.pointer (some ⟨b13, 0, none⟩))), (8, c286), (9, c289), (10, (Value.pointer (some ⟨b30, 0, none⟩))), (11, (Value.int .i64 i_70))] ∧ InR .i64 o305.Start ∧ ORow 56 1 (pL 1 (pI .i64)) m295 c307 o305.Next M308 ∧ ORow 4 1 pB m295 c310 o305.Accept M311) ?_ ?_
      rotate_left
      · clear hJ
        intro e a w hO
        obtain ⟨rfl, c362, M363, c365, M366, ok, E, r361, h364, h367⟩ := hO
        refine b_norm ?_
        refine t_norm ?_
        refine c_region ?_
        refine l_val E ok (y_move rfl) rfl rfl fun a E => ?_
        refine l_val E ok (y_add rfl rfl (InR.inc r77 (ORow.InR h76) hc88)) rfl rfl fun a E => ?_
        refine l_val E ok (y_assign rfl) rfl rfl fun a E => ?_
        refine wpList_nil ?_
        obtain rfl := Option.some.inj hF
        exact step_n ⟨m295, c289, M290, c362, M363, c365, M366, c286, M287, le_m0, (ok.pk 9 [1, 2, 3, 4, 5, 6, 7, 8] rfl (by decide)), E.keep [2, 3, 4, 6, 8, 9, 10, 11], h291, (InR.inc r77 (ORow.InR h76) hc88), r361, h364, h367, h288⟩
      replace hF := hJ
      clear hJ
      obtain ⟨x313, e314, hF⟩ := bnd hF
      obtain ⟨x322, e323, hF⟩ := bnd hF
      obtain ⟨r331, e332, hF⟩ := bnd hF
      obtain ⟨l336, e337, hF⟩ := bnd hF
      obtain rfl := Option.some.inj hF
      refine k_begin [1, 4, 7, 9, 12] (Cls u m295 (M298 :: M303 :: [(b30, Obj.cells [(Value.int .i64 x_71.Start), c302, c82].toArray 29 (0, 0))] :: M290 :: M287 :: [(b13, Obj.cells [(Value.int .i64 0), (Value.slice none 0 0), (Value.slice none 0 0)].toArray 29 (0, 0))] :: [(b12, Obj.cells [(Value.int .i64 b_1.Start), c7, c9].toArray 29 (0, 0))] :: [(b11, Obj.cells [(Value.int .i64 a_0.Start), c2, c4].toArray 29 (0, 0))] :: [])) (Cls u m295 (M298 :: M303 :: M290 :: M287 :: [(b13, Obj.cells [(Value.int .i64 0), (Value.slice none 0 0), (Value.slice none 0 0)].toArray 29 (0, 0))] :: [(b12, Obj.cells [(Value.int .i64 b_1.Start), c7, c9].toArray 29 (0, 0))] :: [(b11, Obj.cells [(Value.int .i64 a_0.Start), c2, c4].toArray 29 (0, 0))] :: [])) (by kernel_rfl) ?_
      intro w hw
      replace ok := okdrew ok hw
      clear hw
      have le_m295 := Mem.le.refl m295
      refine k_next (cl1 ⟨m295, _, le_m295, ok, ⟨memAt 0 rfl, memAt 2 rfl, memAt 3 rfl, memAt 4 rfl, memAt 5 rfl, memAt 6 rfl, memAt 7 rfl, memAt 8 rfl, trivial⟩⟩ ⟨m295, _, le_m295, ok, ⟨memAt 0 rfl, memAt 2 rfl, memAt 4 rfl, memAt 5 rfl, memAt 6 rfl, memAt 7 rfl, memAt 8 rfl, trivial⟩⟩) fun hT => ?_
      refine k_take 0 E rfl (by kernel_rfl) nP hT (y_fieldAddr fo_29_2 rfl) rfl rfl fun a E => ?_
      refine k_takeN 1 E rfl (by kernel_rfl) nP hT (y_load one_23 rfl (Holds.cown 2 rfl rfl)) rfl rfl fun a E => ?_
      refine k_take 2 E rfl (by kernel_rfl) nP hT (y_move rfl) rfl rfl fun a E => ?_
      refine k_take 3 E rfl (by kernel_rfl) nP hT (y_fieldAddr fo_29_2 rfl) rfl rfl fun a E => ?_
      refine k_takeN 4 E rfl (by kernel_rfl) nP hT (y_load one_23 rfl (Holds.cown 7 rfl rfl)) rfl rfl fun a E => ?_
      refine k_take 5 E rfl (by kernel_rfl) nP hT (y_move rfl) rfl rfl fun a E => ?_
      obtain ⟨b341, o342, es343, hl344, rr345, at346, yy347⟩ := idxAt sl_23 h5 e314 (P := Try.prog) (X := .tmp 110) (I := .tmp 111) (kd := .i64) (ev_of E rfl) (ev_of E rfl)
      obtain rfl := rr345
      refine k_take 6 E rfl (by kernel_rfl) nP hT (yy347 _ _) rfl rfl fun a E => ?_
      refine k_takeN 7 E rfl (by kernel_rfl) nP hT (y_load one_4 rfl (Holds.cro at346)) rfl rfl fun a E => ?_
      refine k_take 8 E rfl (by kernel_rfl) nP hT (y_fieldAddr fo_29_2 rfl) rfl rfl fun a E => ?_
      refine k_takeN 9 E rfl (by kernel_rfl) nP hT (y_load one_23 rfl (Holds.cown 6 rfl rfl)) rfl rfl fun a E => ?_
      refine k_take 10 E rfl (by kernel_rfl) nP hT (y_move rfl) rfl rfl fun a E => ?_
      obtain ⟨b348, o349, es350, hl351, rr352, at353, yy354⟩ := idxAt sl_23 h10 e323 (P := Try.prog) (X := .tmp 115) (I := .tmp 116) (kd := .i64) (ev_of E rfl) (ev_of E rfl)
      obtain rfl := rr352
      refine k_take 11 E rfl (by kernel_rfl) nP hT (yy354 _ _) rfl rfl fun a E => ?_
      refine k_takeN 12 E rfl (by kernel_rfl) nP hT (y_load one_4 rfl (Holds.cro at353)) rfl rfl fun a E => ?_
      refine k_all [13] (by kernel_rfl) rfl (one_c ?_)
      · refine wpOp_of_list (o := _) rfl ?_
        refine l_callv E rfl go_45 rfl (automaton_And_1_w N x313 x322 e332 ok) rfl rfl ?_
        rintro _ w ⟨rfl, ok⟩
        refine ⟨_, rfl, fun a E => ?_⟩
        refine wpList_nil ?_
        refine t_norm ?_
        refine k_next (cl1 ⟨m295, _, le_m295, ok, ⟨memAt 0 rfl, memAt 2 rfl, memAt 3 rfl, memAt 4 rfl, memAt 5 rfl, memAt 6 rfl, memAt 7 rfl, memAt 8 rfl, trivial⟩⟩ ⟨m295, _, le_m295, ok, ⟨memAt 0 rfl, memAt 2 rfl, memAt 4 rfl, memAt 5 rfl, memAt 6 rfl, memAt 7 rfl, memAt 8 rfl, trivial⟩⟩) fun hT => ?_
        refine k_all [14] (by kernel_rfl) rfl (one_c ?_)
        · refine wpOp_of_list (o := _) rfl ?_
          refine l_slit (R := pB) (xo := [.tmp 119]) (xs := ([r331] : List (Bool))) E ok sl_23 zero_4 rfl ⟨⟨_, rfl, rfl, pB_mk⟩, trivial⟩ rfl rfl rfl rfl fun c355 M356 a w E ok h357 => ?_
          refine wpList_nil ?_
          refine t_norm ?_
          refine k_next (cl1 ⟨m295, _, le_m295, ok, ⟨memAt 1 rfl, memAt 3 rfl, memAt 4 rfl, memAt 5 rfl, memAt 6 rfl, memAt 7 rfl, memAt 8 rfl, memAt 9 rfl, trivial⟩⟩ ⟨m295, _, le_m295, ok, ⟨memAt 1 rfl, memAt 3 rfl, memAt 5 rfl, memAt 6 rfl, memAt 7 rfl, memAt 8 rfl, memAt 9 rfl, trivial⟩⟩) fun hT => ?_
          refine k_all [15] (by kernel_rfl) rfl (one_c ?_)
          · refine wpOp_of_list (o := _) rfl ?_
            refine l_app (R := pB) E ok 2 mB sl_23 Try.underlying23 rfl h84 (SrcOK.ofRow h357 0 rfl ok) e337 ⟨_, zero_4, rfl⟩ rfl rfl rfl rfl fun c358 M359 a w E ok h360 => ?_
            refine wpList_nil ?_
            refine t_norm ?_
            refine k_next (cl1 ⟨m295, _, le_m295, ok, ⟨memAt 1 rfl, memAt 3 rfl, memAt 4 rfl, memAt 5 rfl, memAt 6 rfl, memAt 7 rfl, memAt 8 rfl, memAt 9 rfl, trivial⟩⟩ ⟨m295, _, le_m295, ok, ⟨memAt 1 rfl, memAt 3 rfl, memAt 5 rfl, memAt 6 rfl, memAt 7 rfl, memAt 8 rfl, memAt 9 rfl, trivial⟩⟩) fun hT => ?_
            refine k_take 16 E rfl (by kernel_rfl) nP hT (y_fieldAddr fo_29_2 rfl) rfl rfl fun a E => ?_
            refine k_all [17] (by kernel_rfl) rfl (one_c ?_)
            · refine wpOp_of_list (o := _) rfl ?_
              refine l_storeB E ok 4 rfl rfl rfl inf_23 (ORow.cells h360) rfl ⟨(ORow.one h360), trivial⟩ rfl rfl fun w ok => ?_
              refine wpList_nil ?_
              refine t_norm ?_
              refine k_next (cl2 (by kernel_rfl) ⟨m295, _, le_m295, ok, ⟨memAt 1 rfl, memAt 3 rfl, memAt 5 rfl, memAt 6 rfl, memAt 7 rfl, memAt 8 rfl, memAt 9 rfl, trivial⟩⟩) fun hT => ?_
              refine k_done (by kernel_rfl) ?_
              exact ⟨rfl, ⟨c302, M303, c358, M359, (ok.pk 10 [1, 2, 3, 4, 5, 6, 7, 8, 9] rfl (by decide)), E.keep [2, 3, 4, 6, 8, 9, 10, 11], r78, h304, h360⟩⟩
  rintro ⟨pairs_143, x_144, number_145, row_146⟩ a w r ⟨c147, M148, c151, M152, c154, M155, ok, E, h149, r150, h153, h156⟩ hF
  replace hF : automaton_product__45_b2 N a_0 b_1 x89 x101 pairs_143 x_144 number_145 row_146 = some r := hF
  unfold automaton_product__45_b2 at hF
  refine wp_seq ?_
  refine c_region ?_
  refine l_val E ok (y_lss rfl rfl) rfl rfl fun a E => ?_
  refine wpList_nil ?_
  refine t_norm ?_
  refine wp_seq ?_
  refine c_if E rfl (fun hc157 => ?_) (fun hc157 => ?_)
  rotate_left
  · replace hF := cond_f hc157 hF
    refine wp_exit ?_
    refine t_exit ?_
    obtain rfl := Option.some.inj hF
    exact step_o (by nofun) (⟨rfl, ⟨c151, M152, c147, M148, c154, M155, ok, E.keep [2, 3, 4, 6, 8, 9, 10, 11, 12, 13, 14], h153, h149, h156⟩⟩)
  replace hF := cond_t hc157 hF
  refine wp_skip ?_
  refine t_norm ?_
  refine wp_seq ?_
  refine wp_block ?_
  refine wp_seq ?_
  refine c_region ?_
  refine l_val E ok (y_move rfl) rfl rfl fun a E => ?_
  refine l_val E ok (y_assign rfl) rfl rfl fun a E => ?_
  refine wpList_nil ?_
  refine t_norm ?_
  refine wp_seq ?_
  obtain ⟨o158, hJ, hF⟩ := bnd hF
  refine c_mono (Q' := fun e a w => e = .normal ∧ ∃ b161, Ok u m73 ([(b161, Obj.cells [(Value.int .i64 o158.e0), (Value.int .i64 o158.e1)].toArray 75 (0, 0))] :: M155 :: M83 :: M80 :: [(b30, Obj.cells [(Value.int .i64 x_71.Start), c79, c82].toArray 29 (0, 0))] :: M148 :: M152 :: [(b13, Obj.cells [(Value.int .i64 0), (Value.slice none 0 0), (Value.slice none 0 0)].toArray 29 (0, 0))] :: [(b12, Obj.cells [(Value.int .i64 b_1.Start), c7, c9].toArray 29 (0, 0))] :: [(b11, Obj.cells [(Value.int .i64 a_0.Start), c2, c4].toArray 29 (0, 0))] :: S) w ∧ Env 131 a [(2, (Value.func (.func 45) #[] #[])), (3, (Value.pointer (some ⟨b11, 0, none⟩))), (4, (Value.pointer (some ⟨b12, 0, none⟩))), (6, (Value.pointer (some ⟨b13, 0, none⟩))), (8, c151), (9, c147), (10, (Value.pointer (some ⟨b30, 0, none⟩))), (11, (Value.int .i64 i_70)), (12, (Value.int .i64 x89.e0)), (13, (Value.int .i64 x101.e1)), (14, c154), (15, (Value.int .i64 x_144)), (16, (Value.pointer (some ⟨b161, 0, none⟩))), (58, (Value.int .i64 x_144))] ∧ InR .i64 o158.e0 ∧ InR .i64 o158.e1) ?_ ?_
  · replace hF := hJ
    clear hJ
    obtain ⟨x162, e163, hF⟩ := bnd hF
    obtain ⟨x173, e174, hF⟩ := bnd hF
    obtain ⟨x183, e184, hF⟩ := bnd hF
    obtain ⟨x194, e195, hF⟩ := bnd hF
    obtain rfl := Option.some.inj hF
    refine k_begin [] (Cls u m73 (M155 :: M83 :: M80 :: [(b30, Obj.cells [(Value.int .i64 x_71.Start), c79, c82].toArray 29 (0, 0))] :: M148 :: M152 :: [(b13, Obj.cells [(Value.int .i64 0), (Value.slice none 0 0), (Value.slice none 0 0)].toArray 29 (0, 0))] :: [(b12, Obj.cells [(Value.int .i64 b_1.Start), c7, c9].toArray 29 (0, 0))] :: [(b11, Obj.cells [(Value.int .i64 a_0.Start), c2, c4].toArray 29 (0, 0))] :: [])) (Cls u m73 (M155 :: M83 :: M80 :: [(b30, Obj.cells [(Value.int .i64 x_71.Start), c79, c82].toArray 29 (0, 0))] :: M148 :: M152 :: [(b13, Obj.cells [(Value.int .i64 0), (Value.slice none 0 0), (Value.slice none 0 0)].toArray 29 (0, 0))] :: [(b12, Obj.cells [(Value.int .i64 b_1.Start), c7, c9].toArray 29 (0, 0))] :: [(b11, Obj.cells [(Value.int .i64 a_0.Start), c2, c4].toArray 29 (0, 0))] :: [])) (by kernel_rfl) ?_
    intro w hw
    replace ok := okdrew ok hw
    clear hw
    have le_m73 := Mem.le.refl m73
    refine k_next (cl1 ⟨m73, _, le_m73, ok, ⟨memAt 0 rfl, memAt 1 rfl, memAt 2 rfl, memAt 3 rfl, memAt 4 rfl, memAt 5 rfl, memAt 6 rfl, memAt 7 rfl, memAt 8 rfl, trivial⟩⟩ ⟨m73, _, le_m73, ok, ⟨memAt 0 rfl, memAt 1 rfl, memAt 2 rfl, memAt 3 rfl, memAt 4 rfl, memAt 5 rfl, memAt 6 rfl, memAt 7 rfl, memAt 8 rfl, trivial⟩⟩) fun hT => ?_
    refine k_take 0 E rfl (by kernel_rfl) nP hT (y_fieldAddr fo_29_1 rfl) rfl rfl fun a E => ?_
    refine k_take 1 E rfl (by kernel_rfl) nP hT (y_load one_22 rfl (Holds.cown 8 rfl rfl)) rfl rfl fun a E => ?_
    refine k_take 2 E rfl (by kernel_rfl) nP hT (y_move rfl) rfl rfl fun a E => ?_
    obtain ⟨b205, o206, es207, hl208, rr209, at210, yy211⟩ := idxAt sl_22 h3 e163 (P := Try.prog) (X := .tmp 62) (I := .tmp 63) (kd := .i64) (ev_of E rfl) (ev_of E rfl)
    obtain ⟨c212, rfl, h213⟩ := pL_cell rr209
    refine k_take 3 E rfl (by kernel_rfl) nP hT (yy211 _ _) rfl rfl fun a E => ?_
    refine k_take 4 E rfl (by kernel_rfl) nP hT (y_load one_56 rfl (Holds.cro at210)) rfl rfl fun a E => ?_
    refine k_take 5 E rfl (by kernel_rfl) nP hT (y_move rfl) rfl rfl fun a E => ?_
    obtain ⟨b214, o215, es216, hl217, rr218, at219, yy220⟩ := idxAt sl_56 h213 e174 (P := Try.prog) (X := .tmp 65) (I := .tmp 66) (kd := .i64) (ev_of E rfl) (ev_of E rfl)
    obtain ⟨rfl, r221⟩ := rr218
    refine k_take 6 E rfl (by kernel_rfl) nP hT (yy220 _ _) rfl rfl fun a E => ?_
    refine k_take 7 E rfl (by kernel_rfl) nP hT (y_load one_3 rfl (Holds.cro at219)) rfl rfl fun a E => ?_
    refine k_take 8 E rfl (by kernel_rfl) nP hT (y_fieldAddr fo_29_1 rfl) rfl rfl fun a E => ?_
    refine k_take 9 E rfl (by kernel_rfl) nP hT (y_load one_22 rfl (Holds.cown 7 rfl rfl)) rfl rfl fun a E => ?_
    refine k_take 10 E rfl (by kernel_rfl) nP hT (y_move rfl) rfl rfl fun a E => ?_
    obtain ⟨b222, o223, es224, hl225, rr226, at227, yy228⟩ := idxAt sl_22 h8 e184 (P := Try.prog) (X := .tmp 70) (I := .tmp 71) (kd := .i64) (ev_of E rfl) (ev_of E rfl)
    obtain ⟨c229, rfl, h230⟩ := pL_cell rr226
    refine k_take 11 E rfl (by kernel_rfl) nP hT (yy228 _ _) rfl rfl fun a E => ?_
    refine k_take 12 E rfl (by kernel_rfl) nP hT (y_load one_56 rfl (Holds.cro at227)) rfl rfl fun a E => ?_
    refine k_take 13 E rfl (by kernel_rfl) nP hT (y_move rfl) rfl rfl fun a E => ?_
    obtain ⟨b231, o232, es233, hl234, rr235, at236, yy237⟩ := idxAt sl_56 h230 e195 (P := Try.prog) (X := .tmp 73) (I := .tmp 74) (kd := .i64) (ev_of E rfl) (ev_of E rfl)
    obtain ⟨rfl, r238⟩ := rr235
    refine k_take 14 E rfl (by kernel_rfl) nP hT (yy237 _ _) rfl rfl fun a E => ?_
    refine k_take 15 E rfl (by kernel_rfl) nP hT (y_load one_3 rfl (Holds.cro at236)) rfl rfl fun a E => ?_
    refine k_take 16 E rfl (by kernel_rfl) nP hT (y_buildA (ps := [(0, .tmp 68), (1, .tmp 76)]) (qs := [(0, [(Value.int .i64 x173)]), (1, [(Value.int .i64 x194)])]) (cs := [(Value.int .i64 x173), (Value.int .i64 x194)]) zero_75 art_75 rfl ⟨rfl, rfl, rfl, ⟨rfl, rfl, rfl, trivial⟩⟩ rfl) rfl rfl fun a E => ?_
    refine k_all [17] (by kernel_rfl) rfl (one_c ?_)
    · refine wpOp_of_list (o := _) rfl ?_
      refine l_alloc E ok zero_75 rfl rfl fun b239 a w E ok => ?_
      refine wpList_nil ?_
      refine t_norm ?_
      refine k_next (cl1 ⟨m73, _, le_m73, ok, ⟨memAt 1 rfl, memAt 2 rfl, memAt 3 rfl, memAt 4 rfl, memAt 5 rfl, memAt 6 rfl, memAt 7 rfl, memAt 8 rfl, memAt 9 rfl, trivial⟩⟩ ⟨m73, _, le_m73, ok, ⟨memAt 1 rfl, memAt 2 rfl, memAt 3 rfl, memAt 4 rfl, memAt 5 rfl, memAt 6 rfl, memAt 7 rfl, memAt 8 rfl, memAt 9 rfl, trivial⟩⟩) fun hT => ?_
      refine k_all [18] (by kernel_rfl) rfl (one_c ?_)
      · refine wpOp_of_list (o := _) rfl ?_
        refine l_storeB E ok 0 rfl rfl rfl inf_75 rfl rfl ⟨rfl, rfl, trivial⟩ rfl rfl fun w ok => ?_
        refine wpList_nil ?_
        refine t_norm ?_
        refine k_next (cl1 ⟨m73, _, le_m73, ok, ⟨memAt 1 rfl, memAt 2 rfl, memAt 3 rfl, memAt 4 rfl, memAt 5 rfl, memAt 6 rfl, memAt 7 rfl, memAt 8 rfl, memAt 9 rfl, trivial⟩⟩ ⟨m73, _, le_m73, ok, ⟨memAt 1 rfl, memAt 2 rfl, memAt 3 rfl, memAt 4 rfl, memAt 5 rfl, memAt 6 rfl, memAt 7 rfl, memAt 8 rfl, memAt 9 rfl, trivial⟩⟩) fun hT => ?_
        refine k_done (by kernel_rfl) ?_
        exact ⟨rfl, ⟨b239, ok, E.keep [2, 3, 4, 6, 8, 9, 10, 11, 12, 13, 14, 15, 16, 58], r221, r238⟩⟩
  clear hJ
  intro e a w hO
  obtain ⟨rfl, b242, ok, E, r240, r241⟩ := hO
  refine t_norm ?_
  refine wp_seq ?_
  refine c_region ?_
  refine l_val E ok (y_move rfl) rfl rfl fun a E => ?_
  refine l_val E ok (y_loadAgg (cs := [(Value.int .i64 o158.e0), (Value.int .i64 o158.e1)]) agg_75 rfl rfl (Holds.own 0 rfl rfl)) rfl rfl fun a E => ?_
  obtain ⟨xv243, h244, yy245, yy246⟩ := mlook (P := Try.prog) (mo := .tmp 79) (ko := .tmp 80) (zx := (0 : Int)) ok 6 keyR_75 Try.underlying76 h153 rfl (ev_of E rfl) (ev_of E rfl) ⟨m0, _, rfl, ⟨rfl, r240, r241⟩⟩ zeroV_3 (pI_mk (show InR .i64 0 by decide))
  obtain ⟨rfl, r247⟩ := pI_inv h244
  refine l_val E ok (yy246 _) rfl rfl fun a E => ?_
  refine l_val E ok (y_move rfl) rfl rfl fun a E => ?_
  refine l_val E ok (y_extract rfl rfl) rfl rfl fun a E => ?_
  refine l_val E ok (y_extract rfl rfl) rfl rfl fun a E => ?_
  refine l_val E ok (y_assign rfl) rfl rfl fun a E => ?_
  refine l_val E ok (y_assign rfl) rfl rfl fun a E => ?_
  refine wpList_nil ?_
  refine t_norm ?_
  refine wp_seq ?_
  refine wp_seq ?_
  refine c_region ?_
  refine l_val E ok (y_move rfl) rfl rfl fun a E => ?_
  refine l_val E ok (y_not rfl) rfl rfl fun a E => ?_
  refine wpList_nil ?_
  refine t_norm ?_
  obtain ⟨o248, hJ, hF⟩ := bnd hF
  refine c_mono (Q' := fun e a w => e = .normal ∧ ∃ c249 M250 c252 M253, Ok u m73 ([(b242, Obj.cells [(Value.int .i64 o158.e0), (Value.int .i64 o158.e1)].toArray 75 (0, 0))] :: M155 :: M83 :: M80 :: [(b30, Obj.cells [(Value.int .i64 x_71.Start), c79, c82].toArray 29 (0, 0))] :: M253 :: M250 :: [(b13, Obj.cells [(Value.int .i64 0), (Value.slice none 0 0), (Value.slice none 0 0)].toArray 29 (0, 0))] :: [(b12, Obj.cells [(Value.int .i64 b_1.Start), c7, c9].toArray 29 (0, 0))] :: [(b11, Obj.cells [(Value.int .i64 a_0.Start), c2, c4].toArray 29 (0, 0))] :: S) w ∧ Env 131 a [(2, (Value.func (.func 45) #[] #[])), (3, (Value.pointer (some ⟨b11, 0, none⟩))), (4, (Value.pointer (some ⟨b12, 0, none⟩))), (6, (Value.pointer (some ⟨b13, 0, none⟩))), (8, c249), (9, c252), (10, (Value.pointer (some ⟨b30, 0, none⟩))), (11, (Value.int .i64 i_70)), (12, (Value.int .i64 x89.e0)), (13, (Value.int .i64 x101.e1)), (14, c154), (15, (Value.int .i64 x_144)), (17, (Value.int .i64 o248.2.2)), (58, (Value.int .i64 x_144))] ∧ OMap (aggK pArr2_Int) (oneV (pI .i64)) m73 c249 o248.1 M250 ∧ ORow 75 2 pArr2_Int m73 c252 o248.2.1 M253 ∧ InR .i64 o248.2.2) ?_ ?_
  rotate_left
  · clear hJ
    intro e a w hO
    obtain ⟨rfl, c269, M270, c272, M273, ok, E, h271, h274, r275⟩ := hO
    refine t_norm ?_
    refine c_region ?_
    refine l_val E ok (y_move rfl) rfl rfl fun a E => ?_
    refine l_val E ok (y_move rfl) rfl rfl fun a E => ?_
    refine l_val E ok (y_move rfl) rfl rfl fun a E => ?_
    obtain ⟨x276, e277, hF⟩ := bnd hF
    obtain ⟨b278, o279, hp280, yy281⟩ := orowAt sl_56 h156 e277 (P := Try.prog) (X := .tmp 95) (I := .tmp 96) (kd := .i64) (ev_of E rfl) (ev_of E rfl)
    refine l_val E ok (yy281 _ _) rfl rfl fun a E => ?_
    obtain ⟨l282, e283, hF⟩ := bnd hF
    refine l_storeRow (R := (pI .i64)) E ok 1 rfl h156 e277 hp280 rfl rfl inf_3 rfl rfl rfl ⟨rfl, trivial⟩ (pI_mk r275) e283 rfl fun M284 w ok h285 => ?_
    refine wpList_nil ?_
    refine b_norm ?_
    refine t_norm ?_
    refine c_region ?_
    refine l_val E ok (y_add rfl rfl (InR.inc r150 (show InR .i64 (11) by decide) hc157)) rfl rfl fun a E => ?_
    refine l_val E ok (y_move rfl) rfl rfl fun a E => ?_
    refine wpList_nil ?_
    obtain rfl := Option.some.inj hF
    exact step_n ⟨c272, M273, c269, M270, c154, M284, (ok.pk 10 [1, 2, 3, 4, 5, 6, 7, 8, 9] rfl (by decide)), E.keep [2, 3, 4, 6, 8, 9, 10, 11, 12, 13, 14, 58], h274, (InR.inc r150 (show InR .i64 (11) by decide) hc157), h271, h285⟩
  replace hF := hJ
  clear hJ
  refine c_if E rfl (fun hc256 => ?_) (fun hc256 => ?_)
  rotate_left
  · replace hF := cond_f hc256 hF
    refine wp_skip ?_
    obtain rfl := Option.some.inj hF
    exact ⟨rfl, ⟨c151, M152, c147, M148, ok, E.keep [2, 3, 4, 6, 8, 9, 10, 11, 12, 13, 14, 15, 17, 58], h153, h149, r247⟩⟩
  replace hF := cond_t hc256 hF
  refine wp_seq ?_
  refine c_region ?_
  refine l_val E ok (y_move rfl) rfl rfl fun a E => ?_
  refine l_val E ok (y_lenR sl_77 h149 rfl) rfl rfl fun a E => ?_
  refine l_val E ok (y_assign rfl) rfl rfl fun a E => ?_
  refine wpList_nil ?_
  refine t_norm ?_
  refine wp_seq ?_
  refine c_region ?_
  refine l_val E ok (y_move rfl) rfl rfl fun a E => ?_
  refine l_val E ok (y_loadAgg (cs := [(Value.int .i64 o158.e0), (Value.int .i64 o158.e1)]) agg_75 rfl rfl (Holds.own 0 rfl rfl)) rfl rfl fun a E => ?_
  refine l_val E ok (y_move rfl) rfl rfl fun a E => ?_
  obtain ⟨l257, e258, hF⟩ := bnd hF
  refine l_mset (.inl rfl) E ok 6 keyR_75 Try.underlying76 h153 rfl rfl rfl rfl ⟨m0, _, rfl, ⟨rfl, r240, r241⟩⟩ (pI_mk (ORow.InR h149)) e258 rfl fun M259 w ok h260 => ?_
  refine wpList_nil ?_
  refine t_norm ?_
  refine c_region ?_
  refine l_val E ok (y_move rfl) rfl rfl fun a E => ?_
  refine l_val E ok (y_loadAgg (cs := [(Value.int .i64 o158.e0), (Value.int .i64 o158.e1)]) agg_75 rfl rfl (Holds.own 0 rfl rfl)) rfl rfl fun a E => ?_
  refine l_slit (R := pArr2_Int) (xo := [.tmp 92]) (xs := ([o158] : List (Arr2_Int))) E ok sl_77 zero_75 rfl ⟨⟨_, rfl, rfl, ⟨rfl, r240, r241⟩⟩, trivial⟩ rfl rfl rfl rfl fun c261 M262 a w E ok h263 => ?_
  obtain ⟨l264, e265, hF⟩ := bnd hF
  refine l_app (R := pArr2_Int) E ok 6 mArr2_Int sl_77 Try.underlying77 rfl h149 (SrcOK.ofRow h263 0 rfl ok) e265 ⟨_, zero_75, rfl⟩ rfl rfl rfl rfl fun c266 M267 a w E ok h268 => ?_
  refine l_val E ok (y_assign rfl) rfl rfl fun a E => ?_
  refine wpList_nil ?_
  obtain rfl := Option.some.inj hF
  exact ⟨rfl, ⟨c151, M259, c266, M267, (ok.pk 11 [1, 2, 3, 4, 5, 6, 7, 8, 9, 10] rfl (by decide)), E.keep [2, 3, 4, 6, 8, 9, 10, 11, 12, 13, 14, 15, 17, 58], h260, h268, (ORow.InR h149)⟩⟩

def automaton_And_R (u : World) (m0 : Mem) (S : Segs) (r : DFA × Int) (a : Act) (w : World) : Prop :=
  ∃ m1 v0, m0.le m1 ∧ Ok u m1 S w ∧ a.defers = [] ∧ RVs Try.prog a w [.c 4 29 (.agg v0.toArray), .t 5 (.int .i64 r.2)] ∧ pDFA m1 v0 r.1 ∧ InR .i64 r.2
set_option maxHeartbeats 4000000 in
set_option maxRecDepth 100000 in
theorem automaton_And_w {u : World} {m0 : Mem} {S : Segs} {w : World} (N : Nat) (va_0 : List Value) (a_0 : DFA) (ha_0 : pDFA m0 va_0 a_0) (vb_1 : List Value) (b_1 : DFA) (hb_1 : pDFA m0 vb_1 b_1) {r : DFA × Int} (hF : automaton_And N a_0 b_1 = some r) (ok : Ok u m0 S w) :
    Calls Try.prog 31 [.agg va_0.toArray, .agg vb_1.toArray].toArray w fun e w' => ∃ m1 v0, e = .returned (.tuple [(.agg v0.toArray), (.int .i64 r.2)].toArray) ∧ m0.le m1 ∧ Ok u m1 S w' ∧ pDFA m1 v0 r.1 ∧ InR .i64 r.2 := by
  obtain ⟨c2, c4, rfl, r1, h3, h5⟩ := ha_0
  obtain ⟨c7, c9, rfl, r6, h8, h10⟩ := hb_1
  have le_m0 := Mem.le.refl m0
  unfold automaton_And at hF
  have fin : ∀ a w, automaton_And_R u m0 S r a w → bodyPost Try.prog Try.f31 (fun e w' => ∃ m1 v0, e = .returned (.tuple [(.agg v0.toArray), (.int .i64 r.2)].toArray) ∧ m0.le m1 ∧ Ok u m1 S w' ∧ pDFA m1 v0 r.1 ∧ InR .i64 r.2) .ret a w := by
    intro a w h
    obtain ⟨m1, v0, hle, ok, hd, hrv, h0, h1⟩ := h
    exact c_ret2 [.c 4 29 (.agg v0.toArray), .t 5 (.int .i64 r.2)] hd rfl hrv ⟨m1, v0, rfl, hle, ok, h0, h1⟩
  refine enter Try.func31 rfl rfl rfl fun a E => ?_
  refine wp_seq ?_
  refine c_region ?_
  refine l_box E ok rfl rfl rfl fun b11 a w E ok => ?_
  refine l_box E ok rfl rfl rfl fun b12 a w E ok => ?_
  refine l_alloc E ok zero_29 rfl rfl fun b13 a w E ok => ?_
  refine l_val E ok (y_assign rfl) rfl rfl fun a E => ?_
  refine wpList_nil ?_
  refine t_norm ?_
  refine wp_seq ?_
  refine c_region ?_
  refine l_val E ok (y_loadAgg (cs := [(Value.int .i64 a_0.Start), c2, c4]) agg_29 rfl rfl (Holds.own 2 rfl rfl)) rfl rfl fun a E => ?_
  refine l_val E ok (y_loadAgg (cs := [(Value.int .i64 b_1.Start), c7, c9]) agg_29 rfl rfl (Holds.own 1 rfl rfl)) rfl rfl fun a E => ?_
  obtain ⟨r14, e15, hF⟩ := bnd hF
  refine l_call E go_44 rfl (automaton_product__45_w N _ a_0 ⟨_, _, rfl, r1, h3, h5⟩ _ b_1 ⟨_, _, rfl, r6, h8, h10⟩ e15 ok) rfl rfl ?_
  rintro _ w ⟨m16, vs17, rfl, hle, ok, h18, r19⟩
  have le_m0 := le_m0.trans hle
  have h3 := (mL (mL (mI .i64))).up hle h3
  have h5 := (mL mB).up hle h5
  have h8 := (mL (mL (mI .i64))).up hle h8
  have h10 := (mL mB).up hle h10
  obtain ⟨c21, c23, rfl, r20, h22, h24⟩ := h18
  refine ⟨_, rfl, fun a E => ?_⟩
  refine l_val E ok (y_extract rfl rfl) rfl rfl fun a E => ?_
  refine l_val E ok (y_extract rfl rfl) rfl rfl fun a E => ?_
  refine l_storeB E ok 0 rfl rfl rfl inf_29 rfl rfl ⟨rfl, (pL_one h22), (pL_one h24), trivial⟩ rfl rfl fun w ok => ?_
  refine l_val E ok (y_assign rfl) rfl rfl fun a E => ?_
  refine wpList_nil ?_
  refine t_norm ?_
  refine wp_ret ?_
  have hret : automaton_And_R u m0 S (r14.1, r14.2) a w := ⟨m16, [(Value.int .i64 r14.1.Start), c21, c23], le_m0, ok.drop.drop.drop, E.d, ⟨rv_c (cs := [(Value.int .i64 r14.1.Start), c21, c23]) E ok rfl agg_29 rfl (Holds.own 0 rfl rfl), rv_t E rfl, trivial⟩, ⟨_, _, rfl, r20, h22, h24⟩, r19⟩
  obtain rfl := Option.some.inj hF
  exact fin _ _ hret

def automaton_Or_1_R (u : World) (m0 : Mem) (S : Segs) (r : Bool) (a : Act) (w : World) : Prop :=
  Ok u m0 S w ∧ a.defers = [] ∧ RVs Try.prog a w [.t 4 (.bool r)]
set_option maxHeartbeats 4000000 in
set_option maxRecDepth 100000 in
theorem automaton_Or_1_w {u : World} {m0 : Mem} {S : Segs} {w : World} (N : Nat) (x_0 : Bool) (y_1 : Bool) {r : Bool} (hF : automaton_Or_1 N x_0 y_1 = some r) (ok : Ok u m0 S w) :
    Calls Try.prog 47 [Value.bool x_0, Value.bool y_1].toArray w fun e w' => (e = .returned (.bool r) ∧ Ok u m0 S w') := by
  have le_m0 := Mem.le.refl m0
  unfold automaton_Or_1 at hF
  have fin : ∀ a w, automaton_Or_1_R u m0 S r a w → bodyPost Try.prog Try.f47 (fun e w' => (e = .returned (.bool r) ∧ Ok u m0 S w')) .ret a w := by
    intro a w h
    obtain ⟨ok, hd, hrv⟩ := h
    exact c_ret2 [.t 4 (.bool r)] hd rfl hrv ⟨rfl, ok⟩
  refine enter Try.func47 rfl rfl rfl fun a E => ?_
  refine wp_seq ?_
  refine c_region ?_
  refine l_val E ok (y_assign rfl) rfl rfl fun a E => ?_
  refine wpList_nil ?_
  refine t_norm ?_
  refine wp_seq ?_
  refine c_region ?_
  refine l_val E ok (y_move rfl) rfl rfl fun a E => ?_
  refine l_val E ok (y_move rfl) rfl rfl fun a E => ?_
  refine bsplit x_0 (fun hc1 => ?_) (fun hc1 => ?_)
  · replace hF := cond_t hc1 hF
    replace E := E.upd 6 hc1 rfl
    refine l_skip E rfl rfl fun a E => ?_
    refine l_val E ok (y_pickT rfl rfl) rfl rfl fun a E => ?_
    refine l_val E ok (y_assign rfl) rfl rfl fun a E => ?_
    refine wpList_nil ?_
    refine t_norm ?_
    refine wp_ret ?_
    have hret : automaton_Or_1_R u m0 S true a w := ⟨ok, E.d, ⟨rv_t E rfl, trivial⟩⟩
    obtain rfl := Option.some.inj hF
    exact fin _ _ hret
  replace hF := cond_f hc1 hF
  replace E := E.upd 6 hc1 rfl
  refine l_val E ok (y_move rfl) rfl rfl fun a E => ?_
  refine l_val E ok (y_pickF rfl rfl) rfl rfl fun a E => ?_
  refine l_val E ok (y_assign rfl) rfl rfl fun a E => ?_
  refine wpList_nil ?_
  refine t_norm ?_
  refine wp_ret ?_
  have hret : automaton_Or_1_R u m0 S y_1 a w := ⟨ok, E.d, ⟨rv_t E rfl, trivial⟩⟩
  obtain rfl := Option.some.inj hF
  exact fin _ _ hret

def automaton_product__47_R (u : World) (m0 : Mem) (S : Segs) (r : DFA × Int) (a : Act) (w : World) : Prop :=
  ∃ m1 v0, m0.le m1 ∧ Ok u m1 S w ∧ a.defers = [] ∧ RVs Try.prog a w [.c 6 29 (.agg v0.toArray), .t 7 (.int .i64 r.2)] ∧ pDFA m1 v0 r.1 ∧ InR .i64 r.2
set_option maxHeartbeats 4000000 in
set_option maxRecDepth 100000 in
theorem automaton_product__47_w {u : World} {m0 : Mem} {S : Segs} {w : World} (N : Nat) (va_0 : List Value) (a_0 : DFA) (ha_0 : pDFA m0 va_0 a_0) (vb_1 : List Value) (b_1 : DFA) (hb_1 : pDFA m0 vb_1 b_1) {r : DFA × Int} (hF : automaton_product__47 N a_0 b_1 = some r) (ok : Ok u m0 S w) :
    Calls Try.prog 44 [.agg va_0.toArray, .agg vb_1.toArray, .func (.func 47) #[] #[]].toArray w fun e w' => ∃ m1 v0, e = .returned (.tuple [(.agg v0.toArray), (.int .i64 r.2)].toArray) ∧ m0.le m1 ∧ Ok u m1 S w' ∧ pDFA m1 v0 r.1 ∧ InR .i64 r.2 := by
  obtain ⟨c2, c4, rfl, r1, h3, h5⟩ := ha_0
  obtain ⟨c7, c9, rfl, r6, h8, h10⟩ := hb_1
  have le_m0 := Mem.le.refl m0
  unfold automaton_product__47 at hF
  have fin : ∀ a w, automaton_product__47_R u m0 S r a w → bodyPost Try.prog Try.f44 (fun e w' => ∃ m1 v0, e = .returned (.tuple [(.agg v0.toArray), (.int .i64 r.2)].toArray) ∧ m0.le m1 ∧ Ok u m1 S w' ∧ pDFA m1 v0 r.1 ∧ InR .i64 r.2) .ret a w := by
    intro a w h
    obtain ⟨m1, v0, hle, ok, hd, hrv, h0, h1⟩ := h
    exact c_ret2 [.c 6 29 (.agg v0.toArray), .t 7 (.int .i64 r.2)] hd rfl hrv ⟨m1, v0, rfl, hle, ok, h0, h1⟩
  refine enter Try.func44 rfl rfl rfl fun a E => ?_
  refine wp_seq ?_
  refine c_region ?_
  refine l_box E ok rfl rfl rfl fun b11 a w E ok => ?_
  refine l_box E ok rfl rfl rfl fun b12 a w E ok => ?_
  refine l_alloc E ok zero_29 rfl rfl fun b13 a w E ok => ?_
  refine l_val E ok (y_assign rfl) rfl rfl fun a E => ?_
  refine wpList_nil ?_
  refine t_norm ?_
  refine wp_seq ?_
  refine wp_seq ?_
  refine c_region ?_
  refine l_val E ok (y_loadAgg (cs := [(Value.int .i64 a_0.Start), c2, c4]) agg_29 rfl rfl (Holds.own 2 rfl rfl)) rfl rfl fun a E => ?_
  obtain ⟨r14, e15, hF⟩ := bnd hF
  refine l_call E go_13 rfl (automaton_Valid_w N _ a_0 ⟨_, _, rfl, r1, h3, h5⟩ e15 ok) rfl rfl ?_
  rintro _ w ⟨rfl, ok⟩
  refine ⟨_, rfl, fun a E => ?_⟩
  refine l_val E ok (y_not rfl) rfl rfl fun a E => ?_
  refine l_val E ok (y_move rfl) rfl rfl fun a E => ?_
  refine bsplit (!r14) (fun hc16 => ?_) (fun hc16 => ?_)
  · replace hF := cond_t hc16 hF
    replace E := E.upd 22 hc16 rfl
    refine l_skip E rfl rfl fun a E => ?_
    refine l_skip E rfl rfl fun a E => ?_
    refine l_skip E rfl rfl fun a E => ?_
    refine l_val E ok (y_pickT rfl rfl) rfl rfl fun a E => ?_
    refine wpList_nil ?_
    refine t_norm ?_
    refine c_if E rfl (fun _ => ?_) (fun h => by cases h)
    refine wp_seq ?_
    refine c_region ?_
    refine l_val E ok (y_build (ps := []) (qs := []) (cs := [(Value.int .i64 0), (Value.slice none 0 0), (Value.slice none 0 0)]) zero_29 places_29 rfl trivial rfl) rfl rfl fun a E => ?_
    refine l_storeB E ok 0 rfl rfl rfl inf_29 rfl rfl ⟨rfl, rfl, rfl, trivial⟩ rfl rfl fun w ok => ?_
    refine l_val E ok (y_assign rfl) rfl rfl fun a E => ?_
    refine wpList_nil ?_
    refine t_norm ?_
    refine wp_ret ?_
    refine t_ret ?_
    have hret : automaton_product__47_R u m0 S ((DFA.mk 0 ([]) ([])), 1) a w := ⟨m0, [(Value.int .i64 0), (Value.slice none 0 0), (Value.slice none 0 0)], le_m0, ok.drop.drop.drop, E.d, ⟨rv_c (cs := [(Value.int .i64 0), (Value.slice none 0 0), (Value.slice none 0 0)]) E ok rfl agg_29 rfl (Holds.own 0 rfl rfl), rv_t E rfl, trivial⟩, ⟨_, _, rfl, (show InR .i64 0 by decide), pL_nil, pL_nil⟩, (show InR .i64 (1) by decide)⟩
    obtain rfl := Option.some.inj hF
    exact fin _ _ hret
  replace hF := cond_f hc16 hF
  replace E := E.upd 22 hc16 rfl
  refine l_val E ok (y_loadAgg (cs := [(Value.int .i64 b_1.Start), c7, c9]) agg_29 rfl rfl (Holds.own 1 rfl rfl)) rfl rfl fun a E => ?_
  obtain ⟨r17, e18, hF⟩ := bnd hF
  refine l_call E go_13 rfl (automaton_Valid_w N _ b_1 ⟨_, _, rfl, r6, h8, h10⟩ e18 ok) rfl rfl ?_
  rintro _ w ⟨rfl, ok⟩
  refine ⟨_, rfl, fun a E => ?_⟩
  refine l_val E ok (y_not rfl) rfl rfl fun a E => ?_
  refine l_val E ok (y_pickF rfl rfl) rfl rfl fun a E => ?_
  refine wpList_nil ?_
  refine t_norm ?_
  refine c_if E rfl (fun hc19 => ?_) (fun hc19 => ?_)
  · replace hF := cond_t hc19 hF
    refine wp_seq ?_
    refine c_region ?_
    refine l_val E ok (y_build (ps := []) (qs := []) (cs := [(Value.int .i64 0), (Value.slice none 0 0), (Value.slice none 0 0)]) zero_29 places_29 rfl trivial rfl) rfl rfl fun a E => ?_
    refine l_storeB E ok 0 rfl rfl rfl inf_29 rfl rfl ⟨rfl, rfl, rfl, trivial⟩ rfl rfl fun w ok => ?_
    refine l_val E ok (y_assign rfl) rfl rfl fun a E => ?_
    refine wpList_nil ?_
    refine t_norm ?_
    refine wp_ret ?_
    refine t_ret ?_
    have hret : automaton_product__47_R u m0 S ((DFA.mk 0 ([]) ([])), 1) a w := ⟨m0, [(Value.int .i64 0), (Value.slice none 0 0), (Value.slice none 0 0)], le_m0, ok.drop.drop.drop, E.d, ⟨rv_c (cs := [(Value.int .i64 0), (Value.slice none 0 0), (Value.slice none 0 0)]) E ok rfl agg_29 rfl (Holds.own 0 rfl rfl), rv_t E rfl, trivial⟩, ⟨_, _, rfl, (show InR .i64 0 by decide), pL_nil, pL_nil⟩, (show InR .i64 (1) by decide)⟩
    obtain rfl := Option.some.inj hF
    exact fin _ _ hret
  replace hF := cond_f hc19 hF
  refine wp_skip ?_
  refine t_norm ?_
  refine wp_seq ?_
  refine c_region ?_
  refine l_makeMap (aggK pArr2_Int) (oneV (pI .i64)) E ok rfl rfl fun c20 M21 a w E ok h22 => ?_
  refine l_val E ok (y_fieldAddr fo_29_0 rfl) rfl rfl fun a E => ?_
  refine l_val E ok (y_load one_3 rfl (Holds.own 3 rfl rfl)) rfl rfl fun a E => ?_
  refine l_val E ok (y_fieldAddr fo_29_0 rfl) rfl rfl fun a E => ?_
  refine l_val E ok (y_load one_3 rfl (Holds.own 2 rfl rfl)) rfl rfl fun a E => ?_
  refine l_val E ok (y_buildA (ps := [(0, .tmp 30), (1, .tmp 32)]) (qs := [(0, [(Value.int .i64 a_0.Start)]), (1, [(Value.int .i64 b_1.Start)])]) (cs := [(Value.int .i64 a_0.Start), (Value.int .i64 b_1.Start)]) zero_75 art_75 rfl ⟨rfl, rfl, rfl, ⟨rfl, rfl, rfl, trivial⟩⟩ rfl) rfl rfl fun a E => ?_
  obtain ⟨l23, e24, hF⟩ := bnd hF
  refine l_mset (.inr rfl) E ok 0 keyR_75 Try.underlying76 h22 rfl rfl rfl rfl ⟨m0, _, rfl, ⟨rfl, r1, r6⟩⟩ (pI_mk (show InR .i64 (0) by decide)) e24 rfl fun M25 w ok h26 => ?_
  refine l_val E ok (y_move rfl) rfl rfl fun a E => ?_
  refine l_val E ok (y_assign rfl) rfl rfl fun a E => ?_
  refine wpList_nil ?_
  refine t_norm ?_
  refine wp_seq ?_
  refine c_region ?_
  refine l_val E ok (y_fieldAddr fo_29_0 rfl) rfl rfl fun a E => ?_
  refine l_val E ok (y_load one_3 rfl (Holds.own 3 rfl rfl)) rfl rfl fun a E => ?_
  refine l_val E ok (y_fieldAddr fo_29_0 rfl) rfl rfl fun a E => ?_
  refine l_val E ok (y_load one_3 rfl (Holds.own 2 rfl rfl)) rfl rfl fun a E => ?_
  refine l_val E ok (y_buildA (ps := [(0, .tmp 36), (1, .tmp 38)]) (qs := [(0, [(Value.int .i64 a_0.Start)]), (1, [(Value.int .i64 b_1.Start)])]) (cs := [(Value.int .i64 a_0.Start), (Value.int .i64 b_1.Start)]) zero_75 art_75 rfl ⟨rfl, rfl, rfl, ⟨rfl, rfl, rfl, trivial⟩⟩ rfl) rfl rfl fun a E => ?_
  refine l_slit (R := pArr2_Int) (xo := [.tmp 39]) (xs := ([(Arr2_Int.mk a_0.Start b_1.Start)] : List (Arr2_Int))) E ok sl_77 zero_75 rfl ⟨⟨_, rfl, rfl, ⟨rfl, r1, r6⟩⟩, trivial⟩ rfl rfl rfl rfl fun c27 M28 a w E ok h29 => ?_
  refine l_val E ok (y_assign rfl) rfl rfl fun a E => ?_
  refine wpList_nil ?_
  refine t_norm ?_
  refine wp_seq ?_
  refine c_region ?_
  refine l_alloc E ok zero_29 rfl rfl fun b30 a w E ok => ?_
  refine wpList_nil ?_
  refine t_norm ?_
  refine wp_seq ?_
  refine wp_seq ?_
  refine c_region ?_
  refine l_val E ok (y_assign rfl) rfl rfl fun a E => ?_
  refine wpList_nil ?_
  refine t_norm ?_
  refine wp_block ?_
  obtain ⟨M49, ok, h50⟩ := nilrow (e := 56) (k := 1) (R := (pL 1 (pI .i64))) ok
  obtain ⟨M51, ok, h52⟩ := nilrow (e := 4) (k := 1) (R := pB) ok
  obtain ⟨o53, hL, hF⟩ := bnd hF
  refine c_loop _ (fun (s : (List (Arr2_Int)) × Int × DFA × (List (Arr2_Int × Int))) a w => ∃ m54 c55 M56 c60 M61 c63 M64 c66 M67, m0.le m54 ∧ Ok u m54 (M64 :: M61 :: [(b30, Obj.cells [(Value.int .i64 s.2.2.1.Start), c60, c63].toArray 29 (0, 0))] :: M56 :: M67 :: [(b13, Obj.cells [(Value.int .i64 0), (Value.slice none 0 0), (Value.slice none 0 0)].toArray 29 (0, 0))] :: [(b12, Obj.cells [(Value.int .i64 b_1.Start), c7, c9].toArray 29 (0, 0))] :: [(b11, Obj.cells [(Value.int .i64 a_0.Start), c2, c4].toArray 29 (0, 0))] :: S) w ∧ Env 131 a [(2, (Value.func (.func 47) #[] #[])), (3, (Value.pointer (some ⟨b11, 0, none⟩))), (4, (Value.pointer (some ⟨b12, 0, none⟩))), (6, (Value.pointer (some ⟨b13, 0, none⟩))), (8, c66), (9, c55), (10, (Value.pointer (some ⟨b30, 0, none⟩))), (11, (Value.int .i64 s.2.1))] ∧ ORow 75 2 pArr2_Int m54 c55 s.1 M56 ∧ InR .i64 s.2.1 ∧ InR .i64 s.2.2.1.Start ∧ ORow 56 1 (pL 1 (pI .i64)) m54 c60 s.2.2.1.Next M61 ∧ ORow 4 1 pB m54 c63 s.2.2.1.Accept M64 ∧ OMap (aggK pArr2_Int) (oneV (pI .i64)) m54 c66 s.2.2.2 M67) (fun (b : DFA) e a w => e = (.exit 0) ∧ ∃ m400 c402 M403 c405 M406, m0.le m400 ∧ Ok u m400 (M406 :: M403 :: [(b30, Obj.cells [(Value.int .i64 b.Start), c402, c405].toArray 29 (0, 0))] :: [(b13, Obj.cells [(Value.int .i64 0), (Value.slice none 0 0), (Value.slice none 0 0)].toArray 29 (0, 0))] :: [(b12, Obj.cells [(Value.int .i64 b_1.Start), c7, c9].toArray 29 (0, 0))] :: [(b11, Obj.cells [(Value.int .i64 a_0.Start), c2, c4].toArray 29 (0, 0))] :: S) w ∧ Env 131 a [(6, (Value.pointer (some ⟨b13, 0, none⟩))), (10, (Value.pointer (some ⟨b30, 0, none⟩)))] ∧ InR .i64 b.Start ∧ ORow 56 1 (pL 1 (pI .i64)) m400 c402 b.Next M403 ∧ ORow 4 1 pB m400 c405 b.Accept M406) ?_ ?_ N _ a w hL ⟨m0, c27, M28, (Value.slice none 0 0), M49, (Value.slice none 0 0), M51, c20, M25, Mem.le.refl _, ok, E.keep [2, 3, 4, 6, 8, 9, 10, 11], h29, (show InR .i64 (0) by decide), (show InR .i64 0 by decide), h50, h52, h26⟩
  rotate_left
  · intro e a w _ hO
    obtain ⟨rfl, m377, c379, M380, c382, M383, hle, ok, E, r378, h381, h384⟩ := hO
    have le_m0 := le_m0.trans hle
    have h3 := (mL (mL (mI .i64))).up hle h3
    have h5 := (mL mB).up hle h5
    have h8 := (mL (mL (mI .i64))).up hle h8
    have h10 := (mL mB).up hle h10
    refine b_hit ?_
    refine t_norm ?_
    refine wp_seq ?_
    refine c_region ?_
    refine l_val E ok (y_loadAgg (cs := [(Value.int .i64 o53.Start), c379, c382]) agg_29 rfl rfl (Holds.own 2 rfl rfl)) rfl rfl fun a E => ?_
    obtain ⟨m385, hle, ok, hfz⟩ := (ok.frs 1 rfl).freeze
    have h386 := ORow.froz (mL (mI .i64)) h381 hle hfz (by decide)
    have le_m0 := le_m0.trans hle
    have h3 := (mL (mL (mI .i64))).up hle h3
    have h5 := (mL mB).up hle h5
    have h8 := (mL (mL (mI .i64))).up hle h8
    have h10 := (mL mB).up hle h10
    have h384 := ORow.up mB hle h384
    obtain ⟨m387, hle, ok, hfz⟩ := (ok.frs 0 rfl).freeze
    have h388 := ORow.froz mB h384 hle hfz (by decide)
    have le_m0 := le_m0.trans hle
    have h3 := (mL (mL (mI .i64))).up hle h3
    have h5 := (mL mB).up hle h5
    have h8 := (mL (mL (mI .i64))).up hle h8
    have h10 := (mL mB).up hle h10
    have h386 := (mL (mL (mI .i64))).up hle h386
    obtain ⟨r389, e390, hF⟩ := bnd hF
    refine l_call E go_41 rfl (automaton_minimal_w N _ o53 ⟨_, _, rfl, r378, h386, h388⟩ e390 ok) rfl rfl ?_
    rintro _ w ⟨m391, vs392, rfl, hle, ok, h393⟩
    have le_m0 := le_m0.trans hle
    have h3 := (mL (mL (mI .i64))).up hle h3
    have h5 := (mL mB).up hle h5
    have h8 := (mL (mL (mI .i64))).up hle h8
    have h10 := (mL mB).up hle h10
    have h386 := (mL (mL (mI .i64))).up hle h386
    have h388 := (mL mB).up hle h388
    obtain ⟨c395, c397, rfl, r394, h396, h398⟩ := h393
    refine ⟨_, rfl, fun a E => ?_⟩
    refine l_storeB E ok 0 rfl rfl rfl inf_29 rfl rfl ⟨rfl, (pL_one h396), (pL_one h398), trivial⟩ rfl rfl fun w ok => ?_
    refine wpList_nil ?_
    refine t_norm ?_
    refine wp_seq ?_
    refine wp_seq ?_
    refine c_region ?_
    refine l_val E ok (y_fieldAddr fo_29_1 rfl) rfl rfl fun a E => ?_
    refine l_val E ok (y_load one_22 rfl (Holds.own 0 rfl rfl)) rfl rfl fun a E => ?_
    refine l_val E ok (y_lenL sl_22 h396 rfl) rfl rfl fun a E => ?_
    refine l_val E ok (y_gtr rfl rfl) rfl rfl fun a E => ?_
    refine wpList_nil ?_
    refine t_norm ?_
    refine c_if E rfl (fun hc399 => ?_) (fun hc399 => ?_)
    · replace hF := cond_t hc399 hF
      refine wp_seq ?_
      refine c_region ?_
      refine l_val E ok (y_build (ps := []) (qs := []) (cs := [(Value.int .i64 0), (Value.slice none 0 0), (Value.slice none 0 0)]) zero_29 places_29 rfl trivial rfl) rfl rfl fun a E => ?_
      refine l_storeB E ok 1 rfl rfl rfl inf_29 rfl rfl ⟨rfl, rfl, rfl, trivial⟩ rfl rfl fun w ok => ?_
      refine l_val E ok (y_assign rfl) rfl rfl fun a E => ?_
      refine wpList_nil ?_
      refine t_norm ?_
      refine wp_ret ?_
      refine t_ret ?_
      have hret : automaton_product__47_R u m0 S ((DFA.mk 0 ([]) ([])), 6) a w := ⟨m391, [(Value.int .i64 0), (Value.slice none 0 0), (Value.slice none 0 0)], le_m0, ok.drop.drop.drop.drop, E.d, ⟨rv_c (cs := [(Value.int .i64 0), (Value.slice none 0 0), (Value.slice none 0 0)]) E ok rfl agg_29 rfl (Holds.own 1 rfl rfl), rv_t E rfl, trivial⟩, ⟨_, _, rfl, (show InR .i64 0 by decide), pL_nil, pL_nil⟩, (show InR .i64 (6) by decide)⟩
      obtain rfl := Option.some.inj hF
      exact fin _ _ hret
    replace hF := cond_f hc399 hF
    refine wp_skip ?_
    refine t_norm ?_
    refine wp_seq ?_
    refine c_region ?_
    refine l_val E ok (y_loadAgg (cs := [(Value.int .i64 r389.Start), c395, c397]) agg_29 rfl rfl (Holds.own 0 rfl rfl)) rfl rfl fun a E => ?_
    refine l_storeB E ok 1 rfl rfl rfl inf_29 rfl rfl ⟨rfl, (pL_one h396), (pL_one h398), trivial⟩ rfl rfl fun w ok => ?_
    refine l_val E ok (y_assign rfl) rfl rfl fun a E => ?_
    refine wpList_nil ?_
    refine t_norm ?_
    refine wp_ret ?_
    have hret : automaton_product__47_R u m0 S (r389, 0) a w := ⟨m391, [(Value.int .i64 r389.Start), c395, c397], le_m0, ok.drop.drop.drop.drop, E.d, ⟨rv_c (cs := [(Value.int .i64 r389.Start), c395, c397]) E ok rfl agg_29 rfl (Holds.own 1 rfl rfl), rv_t E rfl, trivial⟩, ⟨_, _, rfl, r394, h396, h398⟩, (show InR .i64 (0) by decide)⟩
    obtain rfl := Option.some.inj hF
    exact fin _ _ hret
  rintro ⟨pairs_69, i_70, x_71, number_72⟩ a w r ⟨m73, c74, M75, c79, M80, c82, M83, c85, M86, hle, ok, E, h76, r77, r78, h81, h84, h87⟩ hF
  replace hF : automaton_product__47_b1 N a_0 b_1 pairs_69 i_70 x_71 number_72 = some r := hF
  unfold automaton_product__47_b1 at hF
  have le_m0 := le_m0.trans hle
  have h3 := (mL (mL (mI .i64))).up hle h3
  have h5 := (mL mB).up hle h5
  have h8 := (mL (mL (mI .i64))).up hle h8
  have h10 := (mL mB).up hle h10
  refine wp_seq ?_
  refine wp_seq ?_
  refine c_region ?_
  refine l_val E ok (y_move rfl) rfl rfl fun a E => ?_
  refine l_val E ok (y_move rfl) rfl rfl fun a E => ?_
  refine l_val E ok (y_lenR sl_77 h76 rfl) rfl rfl fun a E => ?_
  refine l_val E ok (y_lss rfl rfl) rfl rfl fun a E => ?_
  refine wpList_nil ?_
  refine t_norm ?_
  refine c_if E rfl (fun hc88 => ?_) (fun hc88 => ?_)
  rotate_left
  · replace hF := cond_f hc88 hF
    refine wp_exit ?_
    refine t_exit ?_
    obtain rfl := Option.some.inj hF
    exact step_o (by nofun) (⟨rfl, ⟨m73, c79, M80, c82, M83, le_m0, (ok.pk 8 [0, 1, 2, 5, 6, 7] rfl (by decide)), E.keep [6, 10], r78, h81, h84⟩⟩)
  replace hF := cond_t hc88 hF
  refine wp_skip ?_
  refine t_norm ?_
  refine wp_seq ?_
  refine wp_block ?_
  refine wp_seq ?_
  refine c_draw (by kernel_rfl) (by kernel_rfl) ok ?_
  refine q_val E (y_move rfl) rfl rfl fun a E => ?_
  refine q_val E (y_move rfl) rfl rfl fun a E => ?_
  obtain ⟨x89, e90, hF⟩ := bnd hF
  obtain ⟨b91, o92, hp93, yy94⟩ := orowAt sl_77 h76 e90 (P := Try.prog) (X := .tmp 47) (I := .tmp 48) (kd := .i64) (ev_of E rfl) (ev_of E rfl)
  refine q_val E (yy94 _ _) rfl rfl fun a E => ?_
  refine q_val E (y_arAt art_75 rfl rfl (by decide) (by decide)) rfl rfl fun a E => ?_
  obtain ⟨es95, hl96, rr97, hh98⟩ := orowGet h76 e90 hp93 (by decide)
  obtain ⟨rfl, r99, r100⟩ := rr97
  refine q_val E (y_load one_3 rfl (Holds.sub 0 1 (hh98 _ _ _ 3 rfl))) rfl rfl fun a E => ?_
  refine q_val E (y_move rfl) rfl rfl fun a E => ?_
  refine q_val E (y_move rfl) rfl rfl fun a E => ?_
  obtain ⟨x101, e102, hF⟩ := bnd hF
  obtain ⟨b103, o104, hp105, yy106⟩ := orowAt sl_77 h76 e102 (P := Try.prog) (X := .tmp 52) (I := .tmp 53) (kd := .i64) (ev_of E rfl) (ev_of E rfl)
  refine q_val E (yy106 _ _) rfl rfl fun a E => ?_
  refine q_val E (y_arAt art_75 rfl rfl (by decide) (by decide)) rfl rfl fun a E => ?_
  obtain ⟨es107, hl108, rr109, hh110⟩ := orowGet h76 e102 hp105 (by decide)
  obtain ⟨rfl, r111, r112⟩ := rr109
  refine q_val E (y_load one_3 rfl (Holds.sub 1 1 (hh110 _ _ _ 3 rfl))) rfl rfl fun a E => ?_
  refine q_val E (y_assign rfl) rfl rfl fun a E => ?_
  refine q_val E (y_assign rfl) rfl rfl fun a E => ?_
  refine wpQuiet_nil ?_
  intro w ok
  refine t_norm ?_
  refine wp_seq ?_
  refine c_region ?_
  obtain ⟨l113, e114, hF⟩ := bnd hF
  refine l_make (R := (pI .i64)) E ok sl_56 zero_3 rfl (pI_mk (show InR .i64 0 by decide)) rfl e114 rfl rfl fun c115 M116 a w E ok h117 => ?_
  refine l_val E ok (y_assign rfl) rfl rfl fun a E => ?_
  refine wpList_nil ?_
  refine t_norm ?_
  refine wp_seq ?_
  refine wp_seq ?_
  refine c_region ?_
  refine l_val E ok (y_move rfl) rfl rfl fun a E => ?_
  refine wpList_nil ?_
  refine t_norm ?_
  refine wp_block ?_
  obtain ⟨o132, hL, hF⟩ := bnd hF
  refine c_loop _ (fun (s : (List (Arr2_Int)) × Int × (List (Arr2_Int × Int)) × (List (Int))) a w => ∃ c133 M134 c137 M138 c140 M141, Ok u m73 (M141 :: M83 :: M80 :: [(b30, Obj.cells [(Value.int .i64 x_71.Start), c79, c82].toArray 29 (0, 0))] :: M134 :: M138 :: [(b13, Obj.cells [(Value.int .i64 0), (Value.slice none 0 0), (Value.slice none 0 0)].toArray 29 (0, 0))] :: [(b12, Obj.cells [(Value.int .i64 b_1.Start), c7, c9].toArray 29 (0, 0))] :: [(b11, Obj.cells [(Value.int .i64 a_0.Start), c2, c4].toArray 29 (0, 0))] :: S) w ∧ Env 131 a [(2, (Value.func (.func 47) #[] #[])), (3, (Value.pointer (some ⟨b11, 0, none⟩))), (4, (Value.pointer (some ⟨b12, 0, none⟩))), (6, (Value.pointer (some ⟨b13, 0, none⟩))), (8, c137), (9, c133), (10, (Value.pointer (some ⟨b30, 0, none⟩))), (11, (Value.int .i64 i_70)), (12, (Value.int .i64 x89.e0)), (13, (Value.int .i64 x101.e1)), (14, c140), (58, (Value.int .i64 s.2.1))] ∧ ORow 75 2 pArr2_Int m73 c133 s.1 M134 ∧ InR .i64 s.2.1 ∧ OMap (aggK pArr2_Int) (oneV (pI .i64)) m73 c137 s.2.2.1 M138 ∧ ORow 3 1 (pI .i64) m73 c140 s.2.2.2 M141) (fun (b : ((List (Arr2_Int × Int)) × (List (Arr2_Int)) × (List (Int)))) e a w => e = (.exit 2) ∧ ∃ c368 M369 c371 M372 c374 M375, Ok u m73 (M375 :: M83 :: M80 :: [(b30, Obj.cells [(Value.int .i64 x_71.Start), c79, c82].toArray 29 (0, 0))] :: M372 :: M369 :: [(b13, Obj.cells [(Value.int .i64 0), (Value.slice none 0 0), (Value.slice none 0 0)].toArray 29 (0, 0))] :: [(b12, Obj.cells [(Value.int .i64 b_1.Start), c7, c9].toArray 29 (0, 0))] :: [(b11, Obj.cells [(Value.int .i64 a_0.Start), c2, c4].toArray 29 (0, 0))] :: S) w ∧ Env 131 a [(2, (Value.func (.func 47) #[] #[])), (3, (Value.pointer (some ⟨b11, 0, none⟩))), (4, (Value.pointer (some ⟨b12, 0, none⟩))), (6, (Value.pointer (some ⟨b13, 0, none⟩))), (8, c368), (9, c371), (10, (Value.pointer (some ⟨b30, 0, none⟩))), (11, (Value.int .i64 i_70)), (12, (Value.int .i64 x89.e0)), (13, (Value.int .i64 x101.e1)), (14, c374)] ∧ OMap (aggK pArr2_Int) (oneV (pI .i64)) m73 c368 b.1 M369 ∧ ORow 75 2 pArr2_Int m73 c371 b.2.1 M372 ∧ ORow 3 1 (pI .i64) m73 c374 b.2.2 M375) ?_ ?_ N _ a w hL ⟨c74, M75, c85, M86, c115, M116, ok, E.keep [2, 3, 4, 6, 8, 9, 10, 11, 12, 13, 14, 58], h76, (show InR .i64 (0) by decide), h87, h117⟩
  rotate_left
  · as_aux_lemma =>
      intro e a w _ hO
      obtain ⟨rfl, c286, M287, c289, M290, c292, M293, ok, E, h288, h291, h294⟩ := hO
      refine b_hit ?_
      refine t_norm ?_
      refine wp_seq ?_
      refine c_region ?_
      refine l_val E ok (y_fieldAddr fo_29_1 rfl) rfl rfl fun a E => ?_
      refine l_val E ok (y_load one_22 rfl (Holds.own 3 rfl rfl)) rfl rfl fun a E => ?_
      refine l_val E ok (y_move rfl) rfl rfl fun a E => ?_
      obtain ⟨m295, hle, ok, hfz⟩ := (ok.frs 0 rfl).freeze
      have h296 := ORow.froz (mI .i64) h294 hle hfz (by decide)
      have le_m0 := le_m0.trans hle
      have h3 := (mL (mL (mI .i64))).up hle h3
      have h5 := (mL mB).up hle h5
      have h8 := (mL (mL (mI .i64))).up hle h8
      have h10 := (mL mB).up hle h10
      have h81 := ORow.up (mL (mI .i64)) hle h81
      have h84 := ORow.up mB hle h84
      have h288 := OMap.up (monoOne (mI .i64)) hle h288
      have h291 := ORow.up mArr2_Int hle h291
      refine l_slit (R := (pL 1 (pI .i64))) (xo := [.tmp 102]) (xs := ([o132.2.2] : List (List (Int)))) E ok sl_22 zero_56 rfl ⟨⟨_, (pL_cells h296), rfl, h296⟩, trivial⟩ rfl rfl rfl rfl fun c297 M298 a w E ok h299 => ?_
      obtain ⟨l300, e301, hF⟩ := bnd hF
      refine l_app (R := (pL 1 (pI .i64))) E ok 2 (mL (mI .i64)) sl_22 Try.underlying22 rfl h81 (SrcOK.ofRow h299 0 rfl ok) e301 ⟨_, zero_56, rfl⟩ rfl rfl rfl rfl fun c302 M303 a w E ok h304 => ?_
      refine l_val E ok (y_fieldAddr fo_29_1 rfl) rfl rfl fun a E => ?_
      refine l_storeB E ok 3 rfl rfl rfl inf_22 (ORow.cells h304) rfl ⟨(ORow.one h304), trivial⟩ rfl rfl fun w ok => ?_
      refine wpList_nil ?_
      refine t_norm ?_
      obtain ⟨o305, hJ, hF⟩ := bnd hF
      refine c_mono (Q' := fun e a w => e = .normal ∧ ∃ c307 M308 c310 M311, Ok u m295 (M298 :: M311 :: M308 :: [(b30, Obj.cells [(Value.int .i64 o305.Start), c307, c310].toArray 29 (0, 0))] :: M290 :: M287 :: [(b13, Obj.cells [(Value.int .i64 0), (Value.slice none 0 0), (Value.slice none 0 0)].toArray 29 (0, 0))] :: [(b12, Obj.cells [(Value.int .i64 b_1.Start), c7, c9].toArray 29 (0, 0))] :: [(b11, Obj.cells [(Value.int .i64 a_0.Start), c2, c4].toArray 29 (0, 0))] :: S) w ∧ Env 131 a [(2, (Value.func (.func 47) #[] #[])), (3, (Value.pointer (some ⟨b11, 0, none⟩))), (4, (Value.pointer (some ⟨b12, 0, none⟩))), (6, (Value.pointer (some ⟨b13, 0, none⟩))), (8, c286), (9, c289), (10, (Value.pointer (some ⟨b30, 0, none⟩))), (11, (Value.int .i64 i_70))] ∧ InR .i64 o305.Start ∧ ORow 56 1 (pL 1 (pI .i64)) m295 c307 o305.Next M308 ∧ ORow 4 1 pB m295 c310 o305.Accept M311) ?_ ?_
      rotate_left
      · clear hJ
        intro e a w hO
        obtain ⟨rfl, c362, M363, c365, M366, ok, E, r361, h364, h367⟩ := hO
        refine b_norm ?_
        refine t_norm ?_
        refine c_region ?_
        refine l_val E ok (y_move rfl) rfl rfl fun a E => ?_
        refine l_val E ok (y_add rfl rfl (InR.inc r77 (ORow.InR h76) hc88)) rfl rfl fun a E => ?_
        refine l_val E ok (y_assign rfl) rfl rfl fun a E => ?_
        refine wpList_nil ?_
        obtain rfl := Option.some.inj hF
        exact step_n ⟨m295, c289, M290, c362, M363, c365, M366, c286, M287, le_m0, (ok.pk 9 [1, 2, 3, 4, 5, 6, 7, 8] rfl (by decide)), E.keep [2, 3, 4, 6, 8, 9, 10, 11], h291, (InR.inc r77 (ORow.InR h76) hc88), r361, h364, h367, h288⟩
      replace hF := hJ
      clear hJ
      obtain ⟨x313, e314, hF⟩ := bnd hF
      obtain ⟨x322, e323, hF⟩ := bnd hF
      obtain ⟨r331, e332, hF⟩ := bnd hF
      obtain ⟨l336, e337, hF⟩ := bnd hF
      obtain rfl := Option.some.inj hF
      refine k_begin [1, 4, 7, 9, 12] (Cls u m295 (M298 :: M303 :: [(b30, Obj.cells [(Value.int .i64 x_71.Start), c302, c82].toArray 29 (0, 0))] :: M290 :: M287 :: [(b13, Obj.cells [(Value.int .i64 0), (Value.slice none 0 0), (Value.slice none 0 0)].toArray 29 (0, 0))] :: [(b12, Obj.cells [(Value.int .i64 b_1.Start), c7, c9].toArray 29 (0, 0))] :: [(b11, Obj.cells [(Value.int .i64 a_0.Start), c2, c4].toArray 29 (0, 0))] :: [])) (Cls u m295 (M298 :: M303 :: M290 :: M287 :: [(b13, Obj.cells [(Value.int .i64 0), (Value.slice none 0 0), (Value.slice none 0 0)].toArray 29 (0, 0))] :: [(b12, Obj.cells [(Value.int .i64 b_1.Start), c7, c9].toArray 29 (0, 0))] :: [(b11, Obj.cells [(Value.int .i64 a_0.Start), c2, c4].toArray 29 (0, 0))] :: [])) (by kernel_rfl) ?_
      intro w hw
      replace ok := okdrew ok hw
      clear hw
      have le_m295 := Mem.le.refl m295
      refine k_next (cl1 ⟨m295, _, le_m295, ok, ⟨memAt 0 rfl, memAt 2 rfl, memAt 3 rfl, memAt 4 rfl, memAt 5 rfl, memAt 6 rfl, memAt 7 rfl, memAt 8 rfl, trivial⟩⟩ ⟨m295, _, le_m295, ok, ⟨memAt 0 rfl, memAt 2 rfl, memAt 4 rfl, memAt 5 rfl, memAt 6 rfl, memAt 7 rfl, memAt 8 rfl, trivial⟩⟩) fun hT => ?_
      refine k_take 0 E rfl (by kernel_rfl) nP hT (y_fieldAddr fo_29_2 rfl) rfl rfl fun a E => ?_
      refine k_takeN 1 E rfl (by kernel_rfl) nP hT (y_load one_23 rfl (Holds.cown 2 rfl rfl)) rfl rfl fun a E => ?_
      refine k_take 2 E rfl (by kernel_rfl) nP hT (y_move rfl) rfl rfl fun a E => ?_
      refine k_take 3 E rfl (by kernel_rfl) nP hT (y_fieldAddr fo_29_2 rfl) rfl rfl fun a E => ?_
      refine k_takeN 4 E rfl (by kernel_rfl) nP hT (y_load one_23 rfl (Holds.cown 7 rfl rfl)) rfl rfl fun a E => ?_
      refine k_take 5 E rfl (by kernel_rfl) nP hT (y_move rfl) rfl rfl fun a E => ?_
      obtain ⟨b341, o342, es343, hl344, rr345, at346, yy347⟩ := idxAt sl_23 h5 e314 (P := Try.prog) (X := .tmp 110) (I := .tmp 111) (kd := .i64) (ev_of E rfl) (ev_of E rfl)
      obtain rfl := rr345
      refine k_take 6 E rfl (by kernel_rfl) nP hT (yy347 _ _) rfl rfl fun a E => ?_
      refine k_takeN 7 E rfl (by kernel_rfl) nP hT (y_load one_4 rfl (Holds.cro at346)) rfl rfl fun a E => ?_
      refine k_take 8 E rfl (by kernel_rfl) nP hT (y_fieldAddr fo_29_2 rfl) rfl rfl fun a E => ?_
      refine k_takeN 9 E rfl (by kernel_rfl) nP hT (y_load one_23 rfl (Holds.cown 6 rfl rfl)) rfl rfl fun a E => ?_
      refine k_take 10 E rfl (by kernel_rfl) nP hT (y_move rfl) rfl rfl fun a E => ?_
      obtain ⟨b348, o349, es350, hl351, rr352, at353, yy354⟩ := idxAt sl_23 h10 e323 (P := Try.prog) (X := .tmp 115) (I := .tmp 116) (kd := .i64) (ev_of E rfl) (ev_of E rfl)
      obtain rfl := rr352
      refine k_take 11 E rfl (by kernel_rfl) nP hT (yy354 _ _) rfl rfl fun a E => ?_
      refine k_takeN 12 E rfl (by kernel_rfl) nP hT (y_load one_4 rfl (Holds.cro at353)) rfl rfl fun a E => ?_
      refine k_all [13] (by kernel_rfl) rfl (one_c ?_)
      · refine wpOp_of_list (o := _) rfl ?_
        refine l_callv E rfl go_47 rfl (automaton_Or_1_w N x313 x322 e332 ok) rfl rfl ?_
        rintro _ w ⟨rfl, ok⟩
        refine ⟨_, rfl, fun a E => ?_⟩
        refine wpList_nil ?_
        refine t_norm ?_
        refine k_next (cl1 ⟨m295, _, le_m295, ok, ⟨memAt 0 rfl, memAt 2 rfl, memAt 3 rfl, memAt 4 rfl, memAt 5 rfl, memAt 6 rfl, memAt 7 rfl, memAt 8 rfl, trivial⟩⟩ ⟨m295, _, le_m295, ok, ⟨memAt 0 rfl, memAt 2 rfl, memAt 4 rfl, memAt 5 rfl, memAt 6 rfl, memAt 7 rfl, memAt 8 rfl, trivial⟩⟩) fun hT => ?_
        refine k_all [14] (by kernel_rfl) rfl (one_c ?_)
        · refine wpOp_of_list (o := _) rfl ?_
          refine l_slit (R := pB) (xo := [.tmp 119]) (xs := ([r331] : List (Bool))) E ok sl_23 zero_4 rfl ⟨⟨_, rfl, rfl, pB_mk⟩, trivial⟩ rfl rfl rfl rfl fun c355 M356 a w E ok h357 => ?_
          refine wpList_nil ?_
          refine t_norm ?_
          refine k_next (cl1 ⟨m295, _, le_m295, ok, ⟨memAt 1 rfl, memAt 3 rfl, memAt 4 rfl, memAt 5 rfl, memAt 6 rfl, memAt 7 rfl, memAt 8 rfl, memAt 9 rfl, trivial⟩⟩ ⟨m295, _, le_m295, ok, ⟨memAt 1 rfl, memAt 3 rfl, memAt 5 rfl, memAt 6 rfl, memAt 7 rfl, memAt 8 rfl, memAt 9 rfl, trivial⟩⟩) fun hT => ?_
          refine k_all [15] (by kernel_rfl) rfl (one_c ?_)
          · refine wpOp_of_list (o := _) rfl ?_
            refine l_app (R := pB) E ok 2 mB sl_23 Try.underlying23 rfl h84 (SrcOK.ofRow h357 0 rfl ok) e337 ⟨_, zero_4, rfl⟩ rfl rfl rfl rfl fun c358 M359 a w E ok h360 => ?_
            refine wpList_nil ?_
            refine t_norm ?_
            refine k_next (cl1 ⟨m295, _, le_m295, ok, ⟨memAt 1 rfl, memAt 3 rfl, memAt 4 rfl, memAt 5 rfl, memAt 6 rfl, memAt 7 rfl, memAt 8 rfl, memAt 9 rfl, trivial⟩⟩ ⟨m295, _, le_m295, ok, ⟨memAt 1 rfl, memAt 3 rfl, memAt 5 rfl, memAt 6 rfl, memAt 7 rfl, memAt 8 rfl, memAt 9 rfl, trivial⟩⟩) fun hT => ?_
            refine k_take 16 E rfl (by kernel_rfl) nP hT (y_fieldAddr fo_29_2 rfl) rfl rfl fun a E => ?_
            refine k_all [17] (by kernel_rfl) rfl (one_c ?_)
            · refine wpOp_of_list (o := _) rfl ?_
              refine l_storeB E ok 4 rfl rfl rfl inf_23 (ORow.cells h360) rfl ⟨(ORow.one h360), trivial⟩ rfl rfl fun w ok => ?_
              refine wpList_nil ?_
              refine t_norm ?_
              refine k_next (cl2 (by kernel_rfl) ⟨m295, _, le_m295, ok, ⟨memAt 1 rfl, memAt 3 rfl, memAt 5 rfl, memAt 6 rfl, memAt 7 rfl, memAt 8 rfl, memAt 9 rfl, trivial⟩⟩) fun hT => ?_
              refine k_done (by kernel_rfl) ?_
              exact ⟨rfl, ⟨c302, M303, c358, M359, (ok.pk 10 [1, 2, 3, 4, 5, 6, 7, 8, 9] rfl (by decide)), E.keep [2, 3, 4, 6, 8, 9, 10, 11], r78, h304, h360⟩⟩
  rintro ⟨pairs_143, x_144, number_145, row_146⟩ a w r ⟨c147, M148, c151, M152, c154, M155, ok, E, h149, r150, h153, h156⟩ hF
  replace hF : automaton_product__47_b2 N a_0 b_1 x89 x101 pairs_143 x_144 number_145 row_146 = some r := hF
  unfold automaton_product__47_b2 at hF
  refine wp_seq ?_
  refine c_region ?_
  refine l_val E ok (y_lss rfl rfl) rfl rfl fun a E => ?_
  refine wpList_nil ?_
  refine t_norm ?_
  refine wp_seq ?_
  refine c_if E rfl (fun hc157 => ?_) (fun hc157 => ?_)
  rotate_left
  · replace hF := cond_f hc157 hF
    refine wp_exit ?_
    refine t_exit ?_
    obtain rfl := Option.some.inj hF
    exact step_o (by nofun) (⟨rfl, ⟨c151, M152, c147, M148, c154, M155, ok, E.keep [2, 3, 4, 6, 8, 9, 10, 11, 12, 13, 14], h153, h149, h156⟩⟩)
  replace hF := cond_t hc157 hF
  refine wp_skip ?_
  refine t_norm ?_
  refine wp_seq ?_
  refine wp_block ?_
  refine wp_seq ?_
  refine c_region ?_
  refine l_val E ok (y_move rfl) rfl rfl fun a E => ?_
  refine l_val E ok (y_assign rfl) rfl rfl fun a E => ?_
  refine wpList_nil ?_
  refine t_norm ?_
  refine wp_seq ?_
  obtain ⟨o158, hJ, hF⟩ := bnd hF
  refine c_mono (Q' := fun e a w => e = .normal ∧ ∃ b161, Ok u m73 ([(b161, Obj.cells [(Value.int .i64 o158.e0), (Value.int .i64 o158.e1)].toArray 75 (0, 0))] :: M155 :: M83 :: M80 :: [(b30, Obj.cells [(Value.int .i64 x_71.Start), c79, c82].toArray 29 (0, 0))] :: M148 :: M152 :: [(b13, Obj.cells [(Value.int .i64 0), (Value.slice none 0 0), (Value.slice none 0 0)].toArray 29 (0, 0))] :: [(b12, Obj.cells [(Value.int .i64 b_1.Start), c7, c9].toArray 29 (0, 0))] :: [(b11, Obj.cells [(Value.int .i64 a_0.Start), c2, c4].toArray 29 (0, 0))] :: S) w ∧ Env 131 a [(2, (Value.func (.func 47) #[] #[])), (3, (Value.pointer (some ⟨b11, 0, none⟩))), (4, (Value.pointer (some ⟨b12, 0, none⟩))), (6, (Value.pointer (some ⟨b13, 0, none⟩))), (8, c151), (9, c147), (10, (Value.pointer (some ⟨b30, 0, none⟩))), (11, (Value.int .i64 i_70)), (12, (Value.int .i64 x89.e0)), (13, (Value.int .i64 x101.e1)), (14, c154), (15, (Value.int .i64 x_144)), (16, (Value.pointer (some ⟨b161, 0, none⟩))), (58, (Value.int .i64 x_144))] ∧ InR .i64 o158.e0 ∧ InR .i64 o158.e1) ?_ ?_
  · replace hF := hJ
    clear hJ
    obtain ⟨x162, e163, hF⟩ := bnd hF
    obtain ⟨x173, e174, hF⟩ := bnd hF
    obtain ⟨x183, e184, hF⟩ := bnd hF
    obtain ⟨x194, e195, hF⟩ := bnd hF
    obtain rfl := Option.some.inj hF
    refine k_begin [] (Cls u m73 (M155 :: M83 :: M80 :: [(b30, Obj.cells [(Value.int .i64 x_71.Start), c79, c82].toArray 29 (0, 0))] :: M148 :: M152 :: [(b13, Obj.cells [(Value.int .i64 0), (Value.slice none 0 0), (Value.slice none 0 0)].toArray 29 (0, 0))] :: [(b12, Obj.cells [(Value.int .i64 b_1.Start), c7, c9].toArray 29 (0, 0))] :: [(b11, Obj.cells [(Value.int .i64 a_0.Start), c2, c4].toArray 29 (0, 0))] :: [])) (Cls u m73 (M155 :: M83 :: M80 :: [(b30, Obj.cells [(Value.int .i64 x_71.Start), c79, c82].toArray 29 (0, 0))] :: M148 :: M152 :: [(b13, Obj.cells [(Value.int .i64 0), (Value.slice none 0 0), (Value.slice none 0 0)].toArray 29 (0, 0))] :: [(b12, Obj.cells [(Value.int .i64 b_1.Start), c7, c9].toArray 29 (0, 0))] :: [(b11, Obj.cells [(Value.int .i64 a_0.Start), c2, c4].toArray 29 (0, 0))] :: [])) (by kernel_rfl) ?_
    intro w hw
    replace ok := okdrew ok hw
    clear hw
    have le_m73 := Mem.le.refl m73
    refine k_next (cl1 ⟨m73, _, le_m73, ok, ⟨memAt 0 rfl, memAt 1 rfl, memAt 2 rfl, memAt 3 rfl, memAt 4 rfl, memAt 5 rfl, memAt 6 rfl, memAt 7 rfl, memAt 8 rfl, trivial⟩⟩ ⟨m73, _, le_m73, ok, ⟨memAt 0 rfl, memAt 1 rfl, memAt 2 rfl, memAt 3 rfl, memAt 4 rfl, memAt 5 rfl, memAt 6 rfl, memAt 7 rfl, memAt 8 rfl, trivial⟩⟩) fun hT => ?_
    refine k_take 0 E rfl (by kernel_rfl) nP hT (y_fieldAddr fo_29_1 rfl) rfl rfl fun a E => ?_
    refine k_take 1 E rfl (by kernel_rfl) nP hT (y_load one_22 rfl (Holds.cown 8 rfl rfl)) rfl rfl fun a E => ?_
    refine k_take 2 E rfl (by kernel_rfl) nP hT (y_move rfl) rfl rfl fun a E => ?_
    obtain ⟨b205, o206, es207, hl208, rr209, at210, yy211⟩ := idxAt sl_22 h3 e163 (P := Try.prog) (X := .tmp 62) (I := .tmp 63) (kd := .i64) (ev_of E rfl) (ev_of E rfl)
    obtain ⟨c212, rfl, h213⟩ := pL_cell rr209
    refine k_take 3 E rfl (by kernel_rfl) nP hT (yy211 _ _) rfl rfl fun a E => ?_
    refine k_take 4 E rfl (by kernel_rfl) nP hT (y_load one_56 rfl (Holds.cro at210)) rfl rfl fun a E => ?_
    refine k_take 5 E rfl (by kernel_rfl) nP hT (y_move rfl) rfl rfl fun a E => ?_
    obtain ⟨b214, o215, es216, hl217, rr218, at219, yy220⟩ := idxAt sl_56 h213 e174 (P := Try.prog) (X := .tmp 65) (I := .tmp 66) (kd := .i64) (ev_of E rfl) (ev_of E rfl)
    obtain ⟨rfl, r221⟩ := rr218
    refine k_take 6 E rfl (by kernel_rfl) nP hT (yy220 _ _) rfl rfl fun a E => ?_
    refine k_take 7 E rfl (by kernel_rfl) nP hT (y_load one_3 rfl (Holds.cro at219)) rfl rfl fun a E => ?_
    refine k_take 8 E rfl (by kernel_rfl) nP hT (y_fieldAddr fo_29_1 rfl) rfl rfl fun a E => ?_
    refine k_take 9 E rfl (by kernel_rfl) nP hT (y_load one_22 rfl (Holds.cown 7 rfl rfl)) rfl rfl fun a E => ?_
    refine k_take 10 E rfl (by kernel_rfl) nP hT (y_move rfl) rfl rfl fun a E => ?_
    obtain ⟨b222, o223, es224, hl225, rr226, at227, yy228⟩ := idxAt sl_22 h8 e184 (P := Try.prog) (X := .tmp 70) (I := .tmp 71) (kd := .i64) (ev_of E rfl) (ev_of E rfl)
    obtain ⟨c229, rfl, h230⟩ := pL_cell rr226
    refine k_take 11 E rfl (by kernel_rfl) nP hT (yy228 _ _) rfl rfl fun a E => ?_
    refine k_take 12 E rfl (by kernel_rfl) nP hT (y_load one_56 rfl (Holds.cro at227)) rfl rfl fun a E => ?_
    refine k_take 13 E rfl (by kernel_rfl) nP hT (y_move rfl) rfl rfl fun a E => ?_
    obtain ⟨b231, o232, es233, hl234, rr235, at236, yy237⟩ := idxAt sl_56 h230 e195 (P := Try.prog) (X := .tmp 73) (I := .tmp 74) (kd := .i64) (ev_of E rfl) (ev_of E rfl)
    obtain ⟨rfl, r238⟩ := rr235
    refine k_take 14 E rfl (by kernel_rfl) nP hT (yy237 _ _) rfl rfl fun a E => ?_
    refine k_take 15 E rfl (by kernel_rfl) nP hT (y_load one_3 rfl (Holds.cro at236)) rfl rfl fun a E => ?_
    refine k_take 16 E rfl (by kernel_rfl) nP hT (y_buildA (ps := [(0, .tmp 68), (1, .tmp 76)]) (qs := [(0, [(Value.int .i64 x173)]), (1, [(Value.int .i64 x194)])]) (cs := [(Value.int .i64 x173), (Value.int .i64 x194)]) zero_75 art_75 rfl ⟨rfl, rfl, rfl, ⟨rfl, rfl, rfl, trivial⟩⟩ rfl) rfl rfl fun a E => ?_
    refine k_all [17] (by kernel_rfl) rfl (one_c ?_)
    · refine wpOp_of_list (o := _) rfl ?_
      refine l_alloc E ok zero_75 rfl rfl fun b239 a w E ok => ?_
      refine wpList_nil ?_
      refine t_norm ?_
      refine k_next (cl1 ⟨m73, _, le_m73, ok, ⟨memAt 1 rfl, memAt 2 rfl, memAt 3 rfl, memAt 4 rfl, memAt 5 rfl, memAt 6 rfl, memAt 7 rfl, memAt 8 rfl, memAt 9 rfl, trivial⟩⟩ ⟨m73, _, le_m73, ok, ⟨memAt 1 rfl, memAt 2 rfl, memAt 3 rfl, memAt 4 rfl, memAt 5 rfl, memAt 6 rfl, memAt 7 rfl, memAt 8 rfl, memAt 9 rfl, trivial⟩⟩) fun hT => ?_
      refine k_all [18] (by kernel_rfl) rfl (one_c ?_)
      · refine wpOp_of_list (o := _) rfl ?_
        refine l_storeB E ok 0 rfl rfl rfl inf_75 rfl rfl ⟨rfl, rfl, trivial⟩ rfl rfl fun w ok => ?_
        refine wpList_nil ?_
        refine t_norm ?_
        refine k_next (cl1 ⟨m73, _, le_m73, ok, ⟨memAt 1 rfl, memAt 2 rfl, memAt 3 rfl, memAt 4 rfl, memAt 5 rfl, memAt 6 rfl, memAt 7 rfl, memAt 8 rfl, memAt 9 rfl, trivial⟩⟩ ⟨m73, _, le_m73, ok, ⟨memAt 1 rfl, memAt 2 rfl, memAt 3 rfl, memAt 4 rfl, memAt 5 rfl, memAt 6 rfl, memAt 7 rfl, memAt 8 rfl, memAt 9 rfl, trivial⟩⟩) fun hT => ?_
        refine k_done (by kernel_rfl) ?_
        exact ⟨rfl, ⟨b239, ok, E.keep [2, 3, 4, 6, 8, 9, 10, 11, 12, 13, 14, 15, 16, 58], r221, r238⟩⟩
  clear hJ
  intro e a w hO
  obtain ⟨rfl, b242, ok, E, r240, r241⟩ := hO
  refine t_norm ?_
  refine wp_seq ?_
  refine c_region ?_
  refine l_val E ok (y_move rfl) rfl rfl fun a E => ?_
  refine l_val E ok (y_loadAgg (cs := [(Value.int .i64 o158.e0), (Value.int .i64 o158.e1)]) agg_75 rfl rfl (Holds.own 0 rfl rfl)) rfl rfl fun a E => ?_
  obtain ⟨xv243, h244, yy245, yy246⟩ := mlook (P := Try.prog) (mo := .tmp 79) (ko := .tmp 80) (zx := (0 : Int)) ok 6 keyR_75 Try.underlying76 h153 rfl (ev_of E rfl) (ev_of E rfl) ⟨m0, _, rfl, ⟨rfl, r240, r241⟩⟩ zeroV_3 (pI_mk (show InR .i64 0 by decide))
  obtain ⟨rfl, r247⟩ := pI_inv h244
  refine l_val E ok (yy246 _) rfl rfl fun a E => ?_
  refine l_val E ok (y_move rfl) rfl rfl fun a E => ?_
  refine l_val E ok (y_extract rfl rfl) rfl rfl fun a E => ?_
  refine l_val E ok (y_extract rfl rfl) rfl rfl fun a E => ?_
  refine l_val E ok (y_assign rfl) rfl rfl fun a E => ?_
  refine l_val E ok (y_assign rfl) rfl rfl fun a E => ?_
  refine wpList_nil ?_
  refine t_norm ?_
  refine wp_seq ?_
  refine wp_seq ?_
  refine c_region ?_
  refine l_val E ok (y_move rfl) rfl rfl fun a E => ?_
  refine l_val E ok (y_not rfl) rfl rfl fun a E => ?_
  refine wpList_nil ?_
  refine t_norm ?_
  obtain ⟨o248, hJ, hF⟩ := bnd hF
  refine c_mono (Q' := fun e a w => e = .normal ∧ ∃ c249 M250 c252 M253, Ok u m73 ([(b242, Obj.cells [(Value.int .i64 o158.e0), (Value.int .i64 o158.e1)].toArray 75 (0, 0))] :: M155 :: M83 :: M80 :: [(b30, Obj.cells [(Value.int .i64 x_71.Start), c79, c82].toArray 29 (0, 0))] :: M253 :: M250 :: [(b13, Obj.cells [(Value.int .i64 0), (Value.slice none 0 0), (Value.slice none 0 0)].toArray 29 (0, 0))] :: [(b12, Obj.cells [(Value.int .i64 b_1.Start), c7, c9].toArray 29 (0, 0))] :: [(b11, Obj.cells [(Value.int .i64 a_0.Start), c2, c4].toArray 29 (0, 0))] :: S) w ∧ Env 131 a [(2, (Value.func (.func 47) #[] #[])), (3, (Value.pointer (some ⟨b11, 0, none⟩))), (4, (Value.pointer (some ⟨b12, 0, none⟩))), (6, (Value.pointer (some ⟨b13, 0, none⟩))), (8, c249), (9, c252), (10, (Value.pointer (some ⟨b30, 0, none⟩))), (11, (Value.int .i64 i_70)), (12, (Value.int .i64 x89.e0)), (13, (Value.int .i64 x101.e1)), (14, c154), (15, (Value.int .i64 x_144)), (17, (Value.int .i64 o248.2.2)), (58, (Value.int .i64 x_144))] ∧ OMap (aggK pArr2_Int) (oneV (pI .i64)) m73 c249 o248.1 M250 ∧ ORow 75 2 pArr2_Int m73 c252 o248.2.1 M253 ∧ InR .i64 o248.2.2) ?_ ?_
  rotate_left
  · clear hJ
    intro e a w hO
    obtain ⟨rfl, c269, M270, c272, M273, ok, E, h271, h274, r275⟩ := hO
    refine t_norm ?_
    refine c_region ?_
    refine l_val E ok (y_move rfl) rfl rfl fun a E => ?_
    refine l_val E ok (y_move rfl) rfl rfl fun a E => ?_
    refine l_val E ok (y_move rfl) rfl rfl fun a E => ?_
    obtain ⟨x276, e277, hF⟩ := bnd hF
    obtain ⟨b278, o279, hp280, yy281⟩ := orowAt sl_56 h156 e277 (P := Try.prog) (X := .tmp 95) (I := .tmp 96) (kd := .i64) (ev_of E rfl) (ev_of E rfl)
    refine l_val E ok (yy281 _ _) rfl rfl fun a E => ?_
    obtain ⟨l282, e283, hF⟩ := bnd hF
    refine l_storeRow (R := (pI .i64)) E ok 1 rfl h156 e277 hp280 rfl rfl inf_3 rfl rfl rfl ⟨rfl, trivial⟩ (pI_mk r275) e283 rfl fun M284 w ok h285 => ?_
    refine wpList_nil ?_
    refine b_norm ?_
    refine t_norm ?_
    refine c_region ?_
    refine l_val E ok (y_add rfl rfl (InR.inc r150 (show InR .i64 (11) by decide) hc157)) rfl rfl fun a E => ?_
    refine l_val E ok (y_move rfl) rfl rfl fun a E => ?_
    refine wpList_nil ?_
    obtain rfl := Option.some.inj hF
    exact step_n ⟨c272, M273, c269, M270, c154, M284, (ok.pk 10 [1, 2, 3, 4, 5, 6, 7, 8, 9] rfl (by decide)), E.keep [2, 3, 4, 6, 8, 9, 10, 11, 12, 13, 14, 58], h274, (InR.inc r150 (show InR .i64 (11) by decide) hc157), h271, h285⟩
  replace hF := hJ
  clear hJ
  refine c_if E rfl (fun hc256 => ?_) (fun hc256 => ?_)
  rotate_left
  · replace hF := cond_f hc256 hF
    refine wp_skip ?_
    obtain rfl := Option.some.inj hF
    exact ⟨rfl, ⟨c151, M152, c147, M148, ok, E.keep [2, 3, 4, 6, 8, 9, 10, 11, 12, 13, 14, 15, 17, 58], h153, h149, r247⟩⟩
  replace hF := cond_t hc256 hF
  refine wp_seq ?_
  refine c_region ?_
  refine l_val E ok (y_move rfl) rfl rfl fun a E => ?_
  refine l_val E ok (y_lenR sl_77 h149 rfl) rfl rfl fun a E => ?_
  refine l_val E ok (y_assign rfl) rfl rfl fun a E => ?_
  refine wpList_nil ?_
  refine t_norm ?_
  refine wp_seq ?_
  refine c_region ?_
  refine l_val E ok (y_move rfl) rfl rfl fun a E => ?_
  refine l_val E ok (y_loadAgg (cs := [(Value.int .i64 o158.e0), (Value.int .i64 o158.e1)]) agg_75 rfl rfl (Holds.own 0 rfl rfl)) rfl rfl fun a E => ?_
  refine l_val E ok (y_move rfl) rfl rfl fun a E => ?_
  obtain ⟨l257, e258, hF⟩ := bnd hF
  refine l_mset (.inl rfl) E ok 6 keyR_75 Try.underlying76 h153 rfl rfl rfl rfl ⟨m0, _, rfl, ⟨rfl, r240, r241⟩⟩ (pI_mk (ORow.InR h149)) e258 rfl fun M259 w ok h260 => ?_
  refine wpList_nil ?_
  refine t_norm ?_
  refine c_region ?_
  refine l_val E ok (y_move rfl) rfl rfl fun a E => ?_
  refine l_val E ok (y_loadAgg (cs := [(Value.int .i64 o158.e0), (Value.int .i64 o158.e1)]) agg_75 rfl rfl (Holds.own 0 rfl rfl)) rfl rfl fun a E => ?_
  refine l_slit (R := pArr2_Int) (xo := [.tmp 92]) (xs := ([o158] : List (Arr2_Int))) E ok sl_77 zero_75 rfl ⟨⟨_, rfl, rfl, ⟨rfl, r240, r241⟩⟩, trivial⟩ rfl rfl rfl rfl fun c261 M262 a w E ok h263 => ?_
  obtain ⟨l264, e265, hF⟩ := bnd hF
  refine l_app (R := pArr2_Int) E ok 6 mArr2_Int sl_77 Try.underlying77 rfl h149 (SrcOK.ofRow h263 0 rfl ok) e265 ⟨_, zero_75, rfl⟩ rfl rfl rfl rfl fun c266 M267 a w E ok h268 => ?_
  refine l_val E ok (y_assign rfl) rfl rfl fun a E => ?_
  refine wpList_nil ?_
  obtain rfl := Option.some.inj hF
  exact ⟨rfl, ⟨c151, M259, c266, M267, (ok.pk 11 [1, 2, 3, 4, 5, 6, 7, 8, 9, 10] rfl (by decide)), E.keep [2, 3, 4, 6, 8, 9, 10, 11, 12, 13, 14, 15, 17, 58], h260, h268, (ORow.InR h149)⟩⟩

def automaton_Or_R (u : World) (m0 : Mem) (S : Segs) (r : DFA × Int) (a : Act) (w : World) : Prop :=
  ∃ m1 v0, m0.le m1 ∧ Ok u m1 S w ∧ a.defers = [] ∧ RVs Try.prog a w [.c 4 29 (.agg v0.toArray), .t 5 (.int .i64 r.2)] ∧ pDFA m1 v0 r.1 ∧ InR .i64 r.2
set_option maxHeartbeats 4000000 in
set_option maxRecDepth 100000 in
theorem automaton_Or_w {u : World} {m0 : Mem} {S : Segs} {w : World} (N : Nat) (va_0 : List Value) (a_0 : DFA) (ha_0 : pDFA m0 va_0 a_0) (vb_1 : List Value) (b_1 : DFA) (hb_1 : pDFA m0 vb_1 b_1) {r : DFA × Int} (hF : automaton_Or N a_0 b_1 = some r) (ok : Ok u m0 S w) :
    Calls Try.prog 33 [.agg va_0.toArray, .agg vb_1.toArray].toArray w fun e w' => ∃ m1 v0, e = .returned (.tuple [(.agg v0.toArray), (.int .i64 r.2)].toArray) ∧ m0.le m1 ∧ Ok u m1 S w' ∧ pDFA m1 v0 r.1 ∧ InR .i64 r.2 := by
  obtain ⟨c2, c4, rfl, r1, h3, h5⟩ := ha_0
  obtain ⟨c7, c9, rfl, r6, h8, h10⟩ := hb_1
  have le_m0 := Mem.le.refl m0
  unfold automaton_Or at hF
  have fin : ∀ a w, automaton_Or_R u m0 S r a w → bodyPost Try.prog Try.f33 (fun e w' => ∃ m1 v0, e = .returned (.tuple [(.agg v0.toArray), (.int .i64 r.2)].toArray) ∧ m0.le m1 ∧ Ok u m1 S w' ∧ pDFA m1 v0 r.1 ∧ InR .i64 r.2) .ret a w := by
    intro a w h
    obtain ⟨m1, v0, hle, ok, hd, hrv, h0, h1⟩ := h
    exact c_ret2 [.c 4 29 (.agg v0.toArray), .t 5 (.int .i64 r.2)] hd rfl hrv ⟨m1, v0, rfl, hle, ok, h0, h1⟩
  refine enter Try.func33 rfl rfl rfl fun a E => ?_
  refine wp_seq ?_
  refine c_region ?_
  refine l_box E ok rfl rfl rfl fun b11 a w E ok => ?_
  refine l_box E ok rfl rfl rfl fun b12 a w E ok => ?_
  refine l_alloc E ok zero_29 rfl rfl fun b13 a w E ok => ?_
  refine l_val E ok (y_assign rfl) rfl rfl fun a E => ?_
  refine wpList_nil ?_
  refine t_norm ?_
  refine wp_seq ?_
  refine c_region ?_
  refine l_val E ok (y_loadAgg (cs := [(Value.int .i64 a_0.Start), c2, c4]) agg_29 rfl rfl (Holds.own 2 rfl rfl)) rfl rfl fun a E => ?_
  refine l_val E ok (y_loadAgg (cs := [(Value.int .i64 b_1.Start), c7, c9]) agg_29 rfl rfl (Holds.own 1 rfl rfl)) rfl rfl fun a E => ?_
  obtain ⟨r14, e15, hF⟩ := bnd hF
  refine l_call E go_44 rfl (automaton_product__47_w N _ a_0 ⟨_, _, rfl, r1, h3, h5⟩ _ b_1 ⟨_, _, rfl, r6, h8, h10⟩ e15 ok) rfl rfl ?_
  rintro _ w ⟨m16, vs17, rfl, hle, ok, h18, r19⟩
  have le_m0 := le_m0.trans hle
  have h3 := (mL (mL (mI .i64))).up hle h3
  have h5 := (mL mB).up hle h5
  have h8 := (mL (mL (mI .i64))).up hle h8
  have h10 := (mL mB).up hle h10
  obtain ⟨c21, c23, rfl, r20, h22, h24⟩ := h18
  refine ⟨_, rfl, fun a E => ?_⟩
  refine l_val E ok (y_extract rfl rfl) rfl rfl fun a E => ?_
  refine l_val E ok (y_extract rfl rfl) rfl rfl fun a E => ?_
  refine l_storeB E ok 0 rfl rfl rfl inf_29 rfl rfl ⟨rfl, (pL_one h22), (pL_one h24), trivial⟩ rfl rfl fun w ok => ?_
  refine l_val E ok (y_assign rfl) rfl rfl fun a E => ?_
  refine wpList_nil ?_
  refine t_norm ?_
  refine wp_ret ?_
  have hret : automaton_Or_R u m0 S (r14.1, r14.2) a w := ⟨m16, [(Value.int .i64 r14.1.Start), c21, c23], le_m0, ok.drop.drop.drop, E.d, ⟨rv_c (cs := [(Value.int .i64 r14.1.Start), c21, c23]) E ok rfl agg_29 rfl (Holds.own 0 rfl rfl), rv_t E rfl, trivial⟩, ⟨_, _, rfl, r20, h22, h24⟩, r19⟩
  obtain rfl := Option.some.inj hF
  exact fin _ _ hret

end Go.Proofs.Ytdlaobjbjmecnaa
