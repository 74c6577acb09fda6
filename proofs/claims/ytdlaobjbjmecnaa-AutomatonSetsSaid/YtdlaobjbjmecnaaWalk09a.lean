/- The walks of this part: the model's run of each function yields what the plain function says. Printed by gen.py. -/
import Derived.Test.YtdlaobjbjmecnaaExt09a
import Derived.Test.YtdlaobjbjmecnaaChecked
set_option linter.unusedVariables false
namespace Go.Proofs.Ytdlaobjbjmecnaa
open Go.X

def pDFA : Rp DFA := fun m cs x => ∃ c1 c2, cs = [.int .i64 x.Start, c1, c2] ∧ InR .i64 x.Start ∧ (pL 1 (pL 1 (pI .i64))) m [c1] x.Next ∧ (pL 1 pB) m [c2] x.Accept
theorem mDFA : Mono pDFA := ⟨fun hm h => by
  obtain ⟨c1, c2, e, h0, h1, h2⟩ := h
  exact ⟨c1, c2, e, h0, (mL (mL (mI .i64))).up hm h1, (mL mB).up hm h2⟩, fun h => by
  obtain ⟨c1, c2, rfl, h0, h1, h2⟩ := h
  exact ⟨rfl, ((mL (mL (mI .i64))).one h1).1, ((mL mB).one h2).1, trivial⟩⟩

theorem agg_25 : aggB Try.prog 25 3 = true := by kernel_rfl
theorem agg_29 : aggB Try.prog 29 3 = true := by kernel_rfl
theorem fo_25_0 : fieldOffB Try.prog 25 0 0 = true := by kernel_rfl
theorem fo_25_1 : fieldOffB Try.prog 25 1 1 = true := by kernel_rfl
theorem fo_25_2 : fieldOffB Try.prog 25 2 2 = true := by kernel_rfl
theorem fo_29_0 : fieldOffB Try.prog 29 0 0 = true := by kernel_rfl
theorem fo_29_1 : fieldOffB Try.prog 29 1 1 = true := by kernel_rfl
theorem fo_29_2 : fieldOffB Try.prog 29 2 2 = true := by kernel_rfl
theorem go_11 : goB Try.prog 11 = true := by kernel_rfl
theorem go_12 : goB Try.prog 12 = true := by kernel_rfl
theorem go_13 : goB Try.prog 13 = true := by kernel_rfl
theorem go_14 : goB Try.prog 14 = true := by kernel_rfl
theorem go_15 : goB Try.prog 15 = true := by kernel_rfl
theorem go_16 : goB Try.prog 16 = true := by kernel_rfl
theorem go_17 : goB Try.prog 17 = true := by kernel_rfl
theorem go_18 : goB Try.prog 18 = true := by kernel_rfl
theorem go_19 : goB Try.prog 19 = true := by kernel_rfl
theorem go_20 : goB Try.prog 20 = true := by kernel_rfl
theorem go_25 : goB Try.prog 25 = true := by kernel_rfl
theorem go_35 : goB Try.prog 35 = true := by kernel_rfl
theorem go_36 : goB Try.prog 36 = true := by kernel_rfl
theorem go_37 : goB Try.prog 37 = true := by kernel_rfl
theorem go_38 : goB Try.prog 38 = true := by kernel_rfl
theorem go_39 : goB Try.prog 39 = true := by kernel_rfl
theorem go_40 : goB Try.prog 40 = true := by kernel_rfl
theorem inf_25 : ∃ i, Try.prog.info? 25 = some i ∧ i.size = 3 := ⟨_, rfl, by kernel_rfl⟩
theorem inf_29 : ∃ i, Try.prog.info? 29 = some i ∧ i.size = 3 := ⟨_, rfl, by kernel_rfl⟩
theorem inf_3 : ∃ i, Try.prog.info? 3 = some i ∧ i.size = 1 := ⟨_, rfl, by kernel_rfl⟩
theorem one_22 : oneB Try.prog 22 = true := by kernel_rfl
theorem one_23 : oneB Try.prog 23 = true := by kernel_rfl
theorem one_3 : oneB Try.prog 3 = true := by kernel_rfl
theorem one_4 : oneB Try.prog 4 = true := by kernel_rfl
theorem one_56 : oneB Try.prog 56 = true := by kernel_rfl
theorem one_9 : oneB Try.prog 9 = true := by kernel_rfl
theorem places_29 : placesB Try.prog 29 = some [(0, 1), (1, 1), (2, 1)] := by kernel_rfl
theorem sl_22 : SlT Try.prog 22 56 1 := SlT.of (by kernel_rfl)
theorem sl_23 : SlT Try.prog 23 4 1 := SlT.of (by kernel_rfl)
theorem sl_56 : SlT Try.prog 56 3 1 := SlT.of (by kernel_rfl)
theorem sl_62 : SlT Try.prog 62 9 1 := SlT.of (by kernel_rfl)
theorem zeroV_9 : zeroV Try.prog 9 = some (Value.string (bs ([]))) := by kernel_rfl
theorem zero_25 : zeroB Try.prog 25 = some [(Value.int .i64 0), (Value.slice none 0 0), (Value.slice none 0 0)] := by kernel_rfl
theorem zero_29 : zeroB Try.prog 29 = some [(Value.int .i64 0), (Value.slice none 0 0), (Value.slice none 0 0)] := by kernel_rfl
theorem zero_3 : zeroB Try.prog 3 = some [(Value.int .i64 0)] := by kernel_rfl
theorem zero_4 : zeroB Try.prog 4 = some [(Value.bool false)] := by kernel_rfl
theorem zero_56 : zeroB Try.prog 56 = some [(Value.slice none 0 0)] := by kernel_rfl
theorem zero_9 : zeroB Try.prog 9 = some [(Value.string (bs ([])))] := by kernel_rfl

def calquelaw09_odd_R (u : World) (m0 : Mem) (S : Segs) (r : DFA) (a : Act) (w : World) : Prop :=
  ∃ m1 v0, m0.le m1 ∧ Ok u m1 S w ∧ a.defers = [] ∧ RVs Try.prog a w [.c 0 29 (.agg v0.toArray)] ∧ pDFA m1 v0 r
set_option maxHeartbeats 4000000 in
set_option maxRecDepth 100000 in
theorem calquelaw09_odd_w {u : World} {m0 : Mem} {S : Segs} {w : World} (N : Nat) {r : DFA} (hF : calquelaw09_odd N  = some r) (ok : Ok u m0 S w) :
    Calls Try.prog 36 [].toArray w fun e w' => ∃ m1 v0, e = .returned (.agg v0.toArray) ∧ m0.le m1 ∧ Ok u m1 S w' ∧ pDFA m1 v0 r := by
  have le_m0 := Mem.le.refl m0
  unfold calquelaw09_odd at hF
  have fin : ∀ a w, calquelaw09_odd_R u m0 S r a w → bodyPost Try.prog Try.f36 (fun e w' => ∃ m1 v0, e = .returned (.agg v0.toArray) ∧ m0.le m1 ∧ Ok u m1 S w' ∧ pDFA m1 v0 r) .ret a w := by
    intro a w h
    obtain ⟨m1, v0, hle, ok, hd, hrv, h0⟩ := h
    exact c_ret2 [.c 0 29 (.agg v0.toArray)] hd rfl hrv ⟨m1, v0, rfl, hle, ok, h0⟩
  refine enter Try.func36 rfl rfl rfl fun a E => ?_
  refine wp_seq ?_
  refine c_region ?_
  refine l_alloc E ok zero_29 rfl rfl fun b1 a w E ok => ?_
  refine wpList_nil ?_
  refine t_norm ?_
  refine wp_seq ?_
  refine c_region ?_
  refine l_slit (R := (pI .i64)) (xo := [.const (Value.int .i64 0), .const (Value.int .i64 1), .const (Value.int .i64 0), .const (Value.int .i64 1), .const (Value.int .i64 0), .const (Value.int .i64 1), .const (Value.int .i64 0), .const (Value.int .i64 1), .const (Value.int .i64 0), .const (Value.int .i64 1), .const (Value.int .i64 0)]) (xs := ([0, 1, 0, 1, 0, 1, 0, 1, 0, 1, 0] : List (Int))) E ok sl_56 zero_3 rfl ⟨⟨_, rfl, rfl, (pI_mk (show InR .i64 (0) by decide))⟩, ⟨_, rfl, rfl, (pI_mk (show InR .i64 (1) by decide))⟩, ⟨_, rfl, rfl, (pI_mk (show InR .i64 (0) by decide))⟩, ⟨_, rfl, rfl, (pI_mk (show InR .i64 (1) by decide))⟩, ⟨_, rfl, rfl, (pI_mk (show InR .i64 (0) by decide))⟩, ⟨_, rfl, rfl, (pI_mk (show InR .i64 (1) by decide))⟩, ⟨_, rfl, rfl, (pI_mk (show InR .i64 (0) by decide))⟩, ⟨_, rfl, rfl, (pI_mk (show InR .i64 (1) by decide))⟩, ⟨_, rfl, rfl, (pI_mk (show InR .i64 (0) by decide))⟩, ⟨_, rfl, rfl, (pI_mk (show InR .i64 (1) by decide))⟩, ⟨_, rfl, rfl, (pI_mk (show InR .i64 (0) by decide))⟩, trivial⟩ rfl rfl rfl rfl fun c2 M3 a w E ok h4 => ?_
  refine l_val E ok (y_assign rfl) rfl rfl fun a E => ?_
  refine wpList_nil ?_
  refine t_norm ?_
  refine wp_seq ?_
  refine c_region ?_
  refine l_val E ok (y_move rfl) rfl rfl fun a E => ?_
  refine l_val E ok (y_move rfl) rfl rfl fun a E => ?_
  obtain ⟨m5, hle, ok, hfz⟩ := (ok.frs 0 rfl).freeze
  have h6 := ORow.froz (mI .i64) h4 hle hfz (by decide)
  have le_m0 := le_m0.trans hle
  refine l_slit (R := (pL 1 (pI .i64))) (xo := [.tmp 3, .tmp 4]) (xs := ([([0, 1, 0, 1, 0, 1, 0, 1, 0, 1, 0] : List (Int)), ([0, 1, 0, 1, 0, 1, 0, 1, 0, 1, 0] : List (Int))] : List (List (Int)))) E ok sl_22 zero_56 rfl ⟨⟨_, (pL_cells h6), rfl, h6⟩, ⟨_, (pL_cells h6), rfl, h6⟩, trivial⟩ rfl rfl rfl rfl fun c7 M8 a w E ok h9 => ?_
  refine l_slit (R := pB) (xo := [.const (Value.bool false), .const (Value.bool true)]) (xs := ([false, true] : List (Bool))) E ok sl_23 zero_4 rfl ⟨⟨_, rfl, rfl, pB_mk⟩, ⟨_, rfl, rfl, pB_mk⟩, trivial⟩ rfl rfl rfl rfl fun c10 M11 a w E ok h12 => ?_
  refine l_val E ok (y_build (ps := [(1, .tmp 5), (2, .tmp 6)]) (qs := [(1, [c7]), (2, [c10])]) (cs := [(Value.int .i64 0), c7, c10]) zero_29 places_29 rfl ⟨rfl, (ORow.cells h9), rfl, ⟨rfl, (ORow.cells h12), rfl, trivial⟩⟩ rfl) rfl rfl fun a E => ?_
  refine l_storeB E ok 2 rfl rfl rfl inf_29 rfl rfl ⟨rfl, (ORow.one h9), (ORow.one h12), trivial⟩ rfl rfl fun w ok => ?_
  refine wpList_nil ?_
  refine t_norm ?_
  refine wp_ret ?_
  obtain ⟨m13, hle, ok, hfz⟩ := (ok.frs 1 rfl).freeze
  have h14 := ORow.froz (mL (mI .i64)) h9 hle hfz (by decide)
  have le_m0 := le_m0.trans hle
  have h6 := (mL (mI .i64)).up hle h6
  have h12 := ORow.up mB hle h12
  obtain ⟨m15, hle, ok, hfz⟩ := (ok.frs 0 rfl).freeze
  have h16 := ORow.froz mB h12 hle hfz (by decide)
  have le_m0 := le_m0.trans hle
  have h6 := (mL (mI .i64)).up hle h6
  have h14 := (mL (mL (mI .i64))).up hle h14
  have hret : calquelaw09_odd_R u m0 S (DFA.mk 0 ([([0, 1, 0, 1, 0, 1, 0, 1, 0, 1, 0] : List (Int)), ([0, 1, 0, 1, 0, 1, 0, 1, 0, 1, 0] : List (Int))] : List (List (Int))) ([false, true] : List (Bool))) a w := ⟨m15, [(Value.int .i64 0), c7, c10], le_m0, ok.drop, E.d, ⟨rv_c (cs := [(Value.int .i64 0), c7, c10]) E ok rfl agg_29 rfl (Holds.own 0 rfl rfl), trivial⟩, ⟨_, _, rfl, (show InR .i64 0 by decide), h14, h16⟩⟩
  obtain rfl := Option.some.inj hF
  exact fin _ _ hret

def automaton_Valid_R (u : World) (m0 : Mem) (S : Segs) (r : Bool) (a : Act) (w : World) : Prop :=
  Ok u m0 S w ∧ a.defers = [] ∧ RVs Try.prog a w [.t 2 (.bool r)]
set_option maxHeartbeats 4000000 in
set_option maxRecDepth 100000 in
theorem automaton_Valid_w {u : World} {m0 : Mem} {S : Segs} {w : World} (N : Nat) (vd_0 : List Value) (d_0 : DFA) (hd_0 : pDFA m0 vd_0 d_0) {r : Bool} (hF : automaton_Valid N d_0 = some r) (ok : Ok u m0 S w) :
    Calls Try.prog 13 [.agg vd_0.toArray].toArray w fun e w' => (e = .returned (.bool r) ∧ Ok u m0 S w') := by
  obtain ⟨c2, c4, rfl, r1, h3, h5⟩ := hd_0
  have le_m0 := Mem.le.refl m0
  unfold automaton_Valid at hF
  have fin : ∀ a w, automaton_Valid_R u m0 S r a w → bodyPost Try.prog Try.f13 (fun e w' => (e = .returned (.bool r) ∧ Ok u m0 S w')) .ret a w := by
    intro a w h
    obtain ⟨ok, hd, hrv⟩ := h
    exact c_ret2 [.t 2 (.bool r)] hd rfl hrv ⟨rfl, ok⟩
  refine enter Try.func13 rfl rfl rfl fun a E => ?_
  refine wp_seq ?_
  refine c_region ?_
  refine l_box E ok rfl rfl rfl fun b6 a w E ok => ?_
  refine l_val E ok (y_assign rfl) rfl rfl fun a E => ?_
  refine wpList_nil ?_
  refine t_norm ?_
  refine wp_seq ?_
  refine c_region ?_
  refine l_val E ok (y_fieldAddr fo_29_1 rfl) rfl rfl fun a E => ?_
  refine l_val E ok (y_load one_22 rfl (Holds.own 0 rfl rfl)) rfl rfl fun a E => ?_
  refine l_val E ok (y_lenL sl_22 h3 rfl) rfl rfl fun a E => ?_
  refine l_val E ok (y_assign rfl) rfl rfl fun a E => ?_
  refine wpList_nil ?_
  refine t_norm ?_
  refine wp_seq ?_
  refine wp_seq ?_
  refine c_region ?_
  refine l_val E ok (y_move rfl) rfl rfl fun a E => ?_
  refine l_val E ok (y_lss rfl rfl) rfl rfl fun a E => ?_
  refine l_val E ok (y_move rfl) rfl rfl fun a E => ?_
  refine bsplit (decide ((d_0.Next.length : Int) < 1)) (fun hc7 => ?_) (fun hc7 => ?_)
  · replace hF := cond_t hc7 hF
    replace E := E.upd 13 hc7 rfl
    refine l_skip E rfl rfl fun a E => ?_
    refine l_skip E rfl rfl fun a E => ?_
    refine l_val E ok (y_pickT rfl rfl) rfl rfl fun a E => ?_
    refine l_val E ok (y_move rfl) rfl rfl fun a E => ?_
    refine l_skip E rfl rfl fun a E => ?_
    refine l_skip E rfl rfl fun a E => ?_
    refine l_skip E rfl rfl fun a E => ?_
    refine l_skip E rfl rfl fun a E => ?_
    refine l_skip E rfl rfl fun a E => ?_
    refine l_val E ok (y_pickT rfl rfl) rfl rfl fun a E => ?_
    refine l_val E ok (y_move rfl) rfl rfl fun a E => ?_
    refine l_skip E rfl rfl fun a E => ?_
    refine l_skip E rfl rfl fun a E => ?_
    refine l_skip E rfl rfl fun a E => ?_
    refine l_val E ok (y_pickT rfl rfl) rfl rfl fun a E => ?_
    refine l_val E ok (y_move rfl) rfl rfl fun a E => ?_
    refine l_skip E rfl rfl fun a E => ?_
    refine l_skip E rfl rfl fun a E => ?_
    refine l_skip E rfl rfl fun a E => ?_
    refine l_skip E rfl rfl fun a E => ?_
    refine l_val E ok (y_pickT rfl rfl) rfl rfl fun a E => ?_
    refine wpList_nil ?_
    refine t_norm ?_
    refine c_if E rfl (fun _ => ?_) (fun h => by cases h)
    refine wp_seq ?_
    refine c_region ?_
    refine l_val E ok (y_assign rfl) rfl rfl fun a E => ?_
    refine wpList_nil ?_
    refine t_norm ?_
    refine wp_ret ?_
    refine t_ret ?_
    have hret : automaton_Valid_R u m0 S false a w := ⟨ok.drop, E.d, ⟨rv_t E rfl, trivial⟩⟩
    obtain rfl := Option.some.inj hF
    exact fin _ _ hret
  replace hF := cond_f hc7 hF
  replace E := E.upd 13 hc7 rfl
  refine l_val E ok (y_move rfl) rfl rfl fun a E => ?_
  refine l_val E ok (y_gtr rfl rfl) rfl rfl fun a E => ?_
  refine l_val E ok (y_pickF rfl rfl) rfl rfl fun a E => ?_
  refine l_val E ok (y_move rfl) rfl rfl fun a E => ?_
  refine bsplit (decide ((d_0.Next.length : Int) > 2000)) (fun hc8 => ?_) (fun hc8 => ?_)
  · replace hF := cond_t hc8 hF
    replace E := E.upd 17 hc8 rfl
    refine l_skip E rfl rfl fun a E => ?_
    refine l_skip E rfl rfl fun a E => ?_
    refine l_skip E rfl rfl fun a E => ?_
    refine l_skip E rfl rfl fun a E => ?_
    refine l_skip E rfl rfl fun a E => ?_
    refine l_val E ok (y_pickT rfl rfl) rfl rfl fun a E => ?_
    refine l_val E ok (y_move rfl) rfl rfl fun a E => ?_
    refine l_skip E rfl rfl fun a E => ?_
    refine l_skip E rfl rfl fun a E => ?_
    refine l_skip E rfl rfl fun a E => ?_
    refine l_val E ok (y_pickT rfl rfl) rfl rfl fun a E => ?_
    refine l_val E ok (y_move rfl) rfl rfl fun a E => ?_
    refine l_skip E rfl rfl fun a E => ?_
    refine l_skip E rfl rfl fun a E => ?_
    refine l_skip E rfl rfl fun a E => ?_
    refine l_skip E rfl rfl fun a E => ?_
    refine l_val E ok (y_pickT rfl rfl) rfl rfl fun a E => ?_
    refine wpList_nil ?_
    refine t_norm ?_
    refine c_if E rfl (fun _ => ?_) (fun h => by cases h)
    refine wp_seq ?_
    refine c_region ?_
    refine l_val E ok (y_assign rfl) rfl rfl fun a E => ?_
    refine wpList_nil ?_
    refine t_norm ?_
    refine wp_ret ?_
    refine t_ret ?_
    have hret : automaton_Valid_R u m0 S false a w := ⟨ok.drop, E.d, ⟨rv_t E rfl, trivial⟩⟩
    obtain rfl := Option.some.inj hF
    exact fin _ _ hret
  replace hF := cond_f hc8 hF
  replace E := E.upd 17 hc8 rfl
  refine l_val E ok (y_fieldAddr fo_29_2 rfl) rfl rfl fun a E => ?_
  refine l_val E ok (y_load one_23 rfl (Holds.own 0 rfl rfl)) rfl rfl fun a E => ?_
  refine l_val E ok (y_lenL sl_23 h5 rfl) rfl rfl fun a E => ?_
  refine l_val E ok (y_move rfl) rfl rfl fun a E => ?_
  refine l_val E ok (y_neq rfl rfl) rfl rfl fun a E => ?_
  refine l_val E ok (y_pickF rfl rfl) rfl rfl fun a E => ?_
  refine l_val E ok (y_move rfl) rfl rfl fun a E => ?_
  refine bsplit ((d_0.Accept.length : Int) != (d_0.Next.length : Int)) (fun hc9 => ?_) (fun hc9 => ?_)
  · replace hF := cond_t hc9 hF
    replace E := E.upd 24 hc9 rfl
    refine l_skip E rfl rfl fun a E => ?_
    refine l_skip E rfl rfl fun a E => ?_
    refine l_skip E rfl rfl fun a E => ?_
    refine l_val E ok (y_pickT rfl rfl) rfl rfl fun a E => ?_
    refine l_val E ok (y_move rfl) rfl rfl fun a E => ?_
    refine l_skip E rfl rfl fun a E => ?_
    refine l_skip E rfl rfl fun a E => ?_
    refine l_skip E rfl rfl fun a E => ?_
    refine l_skip E rfl rfl fun a E => ?_
    refine l_val E ok (y_pickT rfl rfl) rfl rfl fun a E => ?_
    refine wpList_nil ?_
    refine t_norm ?_
    refine c_if E rfl (fun _ => ?_) (fun h => by cases h)
    refine wp_seq ?_
    refine c_region ?_
    refine l_val E ok (y_assign rfl) rfl rfl fun a E => ?_
    refine wpList_nil ?_
    refine t_norm ?_
    refine wp_ret ?_
    refine t_ret ?_
    have hret : automaton_Valid_R u m0 S false a w := ⟨ok.drop, E.d, ⟨rv_t E rfl, trivial⟩⟩
    obtain rfl := Option.some.inj hF
    exact fin _ _ hret
  replace hF := cond_f hc9 hF
  replace E := E.upd 24 hc9 rfl
  refine l_val E ok (y_fieldAddr fo_29_0 rfl) rfl rfl fun a E => ?_
  refine l_val E ok (y_load one_3 rfl (Holds.own 0 rfl rfl)) rfl rfl fun a E => ?_
  refine l_val E ok (y_lss rfl rfl) rfl rfl fun a E => ?_
  refine l_val E ok (y_pickF rfl rfl) rfl rfl fun a E => ?_
  refine l_val E ok (y_move rfl) rfl rfl fun a E => ?_
  refine bsplit (decide (d_0.Start < 0)) (fun hc10 => ?_) (fun hc10 => ?_)
  · replace hF := cond_t hc10 hF
    replace E := E.upd 29 hc10 rfl
    refine l_skip E rfl rfl fun a E => ?_
    refine l_skip E rfl rfl fun a E => ?_
    refine l_skip E rfl rfl fun a E => ?_
    refine l_skip E rfl rfl fun a E => ?_
    refine l_val E ok (y_pickT rfl rfl) rfl rfl fun a E => ?_
    refine wpList_nil ?_
    refine t_norm ?_
    refine c_if E rfl (fun _ => ?_) (fun h => by cases h)
    refine wp_seq ?_
    refine c_region ?_
    refine l_val E ok (y_assign rfl) rfl rfl fun a E => ?_
    refine wpList_nil ?_
    refine t_norm ?_
    refine wp_ret ?_
    refine t_ret ?_
    have hret : automaton_Valid_R u m0 S false a w := ⟨ok.drop, E.d, ⟨rv_t E rfl, trivial⟩⟩
    obtain rfl := Option.some.inj hF
    exact fin _ _ hret
  replace hF := cond_f hc10 hF
  replace E := E.upd 29 hc10 rfl
  refine l_val E ok (y_fieldAddr fo_29_0 rfl) rfl rfl fun a E => ?_
  refine l_val E ok (y_load one_3 rfl (Holds.own 0 rfl rfl)) rfl rfl fun a E => ?_
  refine l_val E ok (y_move rfl) rfl rfl fun a E => ?_
  refine l_val E ok (y_geq rfl rfl) rfl rfl fun a E => ?_
  refine l_val E ok (y_pickF rfl rfl) rfl rfl fun a E => ?_
  refine wpList_nil ?_
  refine t_norm ?_
  refine c_if E rfl (fun hc11 => ?_) (fun hc11 => ?_)
  · replace hF := cond_t hc11 hF
    refine wp_seq ?_
    refine c_region ?_
    refine l_val E ok (y_assign rfl) rfl rfl fun a E => ?_
    refine wpList_nil ?_
    refine t_norm ?_
    refine wp_ret ?_
    refine t_ret ?_
    have hret : automaton_Valid_R u m0 S false a w := ⟨ok.drop, E.d, ⟨rv_t E rfl, trivial⟩⟩
    obtain rfl := Option.some.inj hF
    exact fin _ _ hret
  replace hF := cond_f hc11 hF
  refine wp_skip ?_
  refine t_norm ?_
  refine wp_seq ?_
  refine wp_seq ?_
  refine c_region ?_
  refine l_val E ok (y_fieldAddr fo_29_1 rfl) rfl rfl fun a E => ?_
  refine l_val E ok (y_load one_22 rfl (Holds.own 0 rfl rfl)) rfl rfl fun a E => ?_
  refine l_val E ok (y_lenL sl_22 h3 rfl) rfl rfl fun a E => ?_
  refine l_val E ok (y_move rfl) rfl rfl fun a E => ?_
  refine wpList_nil ?_
  refine t_norm ?_
  refine wp_block ?_
  obtain ⟨o13, hL, hF⟩ := bnd hF
  refine c_loop _ (fun (s : Int) a w => Ok u m0 ([(b6, Obj.cells [(Value.int .i64 d_0.Start), c2, c4].toArray 29 (0, 0))] :: S) w ∧ Env 60 a [(3, (Value.int .i64 (d_0.Next.length : Int))), (36, c2), (37, (Value.int .i64 (d_0.Next.length : Int))), (38, (Value.int .i64 s))] ∧ InR .i64 s) (fun (b : (Unit ⊕ Bool)) e a w => (Sum.elim (fun b50 => e = (.exit 0) ∧ Ok u m0 ([(b6, Obj.cells [(Value.int .i64 d_0.Start), c2, c4].toArray 29 (0, 0))] :: S) w ∧ Env 60 a []) (fun b51 => e = .ret ∧ automaton_Valid_R u m0 S b51 a w)) b) ?_ ?_ N _ a w hL ⟨ok, E.keep [3, 36, 37, 38], (show InR .i64 (0) by decide)⟩
  rotate_left
  · intro e a w _ hO
    rcases o13 with o13 | o13
    rotate_left
    · replace hF := elim_r hF
      obtain ⟨rfl, hret⟩ := hO
      refine b_ret ?_
      refine t_ret ?_
      obtain rfl := Option.some.inj hF
      exact fin _ _ hret
    replace hF := elim_l hF
    obtain ⟨rfl, ok, E⟩ := hO
    refine b_hit ?_
    refine t_norm ?_
    refine wp_seq ?_
    refine c_region ?_
    refine l_val E ok (y_assign rfl) rfl rfl fun a E => ?_
    refine wpList_nil ?_
    refine t_norm ?_
    refine wp_ret ?_
    have hret : automaton_Valid_R u m0 S true a w := ⟨ok.drop, E.d, ⟨rv_t E rfl, trivial⟩⟩
    obtain rfl := Option.some.inj hF
    exact fin _ _ hret
  rintro x_15 a w r ⟨ok, E, r16⟩ hF
  replace hF : automaton_Valid_b1 N d_0 x_15 = some r := hF
  unfold automaton_Valid_b1 at hF
  refine wp_seq ?_
  refine c_region ?_
  refine l_val E ok (y_lss rfl rfl) rfl rfl fun a E => ?_
  refine wpList_nil ?_
  refine t_norm ?_
  refine wp_seq ?_
  refine c_if E rfl (fun hc17 => ?_) (fun hc17 => ?_)
  rotate_left
  · replace hF := cond_f hc17 hF
    refine wp_exit ?_
    refine t_exit ?_
    obtain rfl := Option.some.inj hF
    exact step_o (by nofun) (sl ⟨rfl, ⟨ok, E.keep []⟩⟩)
  replace hF := cond_t hc17 hF
  refine wp_skip ?_
  refine t_norm ?_
  refine wp_seq ?_
  refine wp_block ?_
  refine wp_seq ?_
  refine c_region ?_
  obtain ⟨x18, e19, hF⟩ := bnd hF
  obtain ⟨b20, o21, es22, hl23, rr24, at25, yy26⟩ := idxAt sl_22 h3 e19 (P := Try.prog) (X := .tmp 36) (I := .tmp 38) (kd := .i64) (ev_of E rfl) (ev_of E rfl)
  obtain ⟨c27, rfl, h28⟩ := pL_cell rr24
  refine l_val E ok (yy26 _ _) rfl rfl fun a E => ?_
  refine l_val E ok (y_load one_56 rfl (Holds.ro at25)) rfl rfl fun a E => ?_
  refine l_val E ok (y_assign rfl) rfl rfl fun a E => ?_
  refine wpList_nil ?_
  refine t_norm ?_
  refine wp_seq ?_
  refine wp_seq ?_
  refine c_region ?_
  refine l_val E ok (y_move rfl) rfl rfl fun a E => ?_
  refine l_val E ok (y_lenL sl_56 h28 rfl) rfl rfl fun a E => ?_
  refine l_val E ok (y_neq rfl rfl) rfl rfl fun a E => ?_
  refine wpList_nil ?_
  refine t_norm ?_
  refine c_if E rfl (fun hc29 => ?_) (fun hc29 => ?_)
  · replace hF := cond_t hc29 hF
    refine wp_seq ?_
    refine c_region ?_
    refine l_val E ok (y_assign rfl) rfl rfl fun a E => ?_
    refine wpList_nil ?_
    refine t_norm ?_
    refine wp_ret ?_
    refine t_ret ?_
    refine b_ret ?_
    refine t_ret ?_
    have hret : automaton_Valid_R u m0 S false a w := ⟨ok.drop, E.d, ⟨rv_t E rfl, trivial⟩⟩
    obtain rfl := Option.some.inj hF
    exact step_o (by nofun) (sr ⟨rfl, hret⟩)
  replace hF := cond_f hc29 hF
  refine wp_skip ?_
  refine t_norm ?_
  refine wp_seq ?_
  refine c_region ?_
  refine l_val E ok (y_move rfl) rfl rfl fun a E => ?_
  refine l_val E ok (y_lenL sl_56 h28 rfl) rfl rfl fun a E => ?_
  refine l_val E ok (y_move rfl) rfl rfl fun a E => ?_
  refine wpList_nil ?_
  refine t_norm ?_
  refine wp_block ?_
  obtain ⟨o31, hL, hF⟩ := bnd hF
  refine c_loop _ (fun (s : Int) a w => Ok u m0 ([(b6, Obj.cells [(Value.int .i64 d_0.Start), c2, c4].toArray 29 (0, 0))] :: S) w ∧ Env 60 a [(3, (Value.int .i64 (d_0.Next.length : Int))), (36, c2), (37, (Value.int .i64 (d_0.Next.length : Int))), (38, (Value.int .i64 x_15)), (45, c27), (46, (Value.int .i64 (x18.length : Int))), (47, (Value.int .i64 s))] ∧ InR .i64 s) (fun (b : (Unit ⊕ Bool)) e a w => (Sum.elim (fun b48 => e = (.exit 2) ∧ Ok u m0 ([(b6, Obj.cells [(Value.int .i64 d_0.Start), c2, c4].toArray 29 (0, 0))] :: S) w ∧ Env 60 a [(3, (Value.int .i64 (d_0.Next.length : Int))), (36, c2), (37, (Value.int .i64 (d_0.Next.length : Int))), (38, (Value.int .i64 x_15))]) (fun b49 => e = .ret ∧ automaton_Valid_R u m0 S b49 a w)) b) ?_ ?_ N _ a w hL ⟨ok, E.keep [3, 36, 37, 38, 45, 46, 47], (show InR .i64 (0) by decide)⟩
  rotate_left
  · intro e a w _ hO
    rcases o31 with o31 | o31
    rotate_left
    · replace hF := elim_r hF
      obtain ⟨rfl, hret⟩ := hO
      refine b_ret ?_
      refine b_ret ?_
      refine t_ret ?_
      obtain rfl := Option.some.inj hF
      exact step_o (by nofun) (sr ⟨rfl, hret⟩)
    replace hF := elim_l hF
    obtain ⟨rfl, ok, E⟩ := hO
    refine b_hit ?_
    refine b_norm ?_
    refine t_norm ?_
    refine c_region ?_
    refine l_val E ok (y_add rfl rfl (InR.inc r16 (pL_InR h3) hc17)) rfl rfl fun a E => ?_
    refine l_val E ok (y_move rfl) rfl rfl fun a E => ?_
    refine wpList_nil ?_
    obtain rfl := Option.some.inj hF
    exact step_n ⟨ok, E.keep [3, 36, 37, 38], (InR.inc r16 (pL_InR h3) hc17)⟩
  rintro x_33 a w r ⟨ok, E, r34⟩ hF
  replace hF : automaton_Valid_b2 N d_0 x18 x_33 = some r := hF
  unfold automaton_Valid_b2 at hF
  refine wp_seq ?_
  refine c_region ?_
  refine l_val E ok (y_lss rfl rfl) rfl rfl fun a E => ?_
  refine wpList_nil ?_
  refine t_norm ?_
  refine wp_seq ?_
  refine c_if E rfl (fun hc35 => ?_) (fun hc35 => ?_)
  rotate_left
  · replace hF := cond_f hc35 hF
    refine wp_exit ?_
    refine t_exit ?_
    obtain rfl := Option.some.inj hF
    exact step_o (by nofun) (sl ⟨rfl, ⟨ok, E.keep [3, 36, 37, 38]⟩⟩)
  replace hF := cond_t hc35 hF
  refine wp_skip ?_
  refine t_norm ?_
  refine wp_seq ?_
  refine wp_block ?_
  refine wp_seq ?_
  refine c_region ?_
  obtain ⟨x36, e37, hF⟩ := bnd hF
  obtain ⟨b38, o39, es40, hl41, rr42, at43, yy44⟩ := idxAt sl_56 h28 e37 (P := Try.prog) (X := .tmp 45) (I := .tmp 47) (kd := .i64) (ev_of E rfl) (ev_of E rfl)
  obtain ⟨rfl, r45⟩ := rr42
  refine l_val E ok (yy44 _ _) rfl rfl fun a E => ?_
  refine l_val E ok (y_load one_3 rfl (Holds.ro at43)) rfl rfl fun a E => ?_
  refine l_val E ok (y_assign rfl) rfl rfl fun a E => ?_
  refine wpList_nil ?_
  refine t_norm ?_
  refine wp_seq ?_
  refine c_region ?_
  refine l_val E ok (y_move rfl) rfl rfl fun a E => ?_
  refine l_val E ok (y_lss rfl rfl) rfl rfl fun a E => ?_
  refine l_val E ok (y_move rfl) rfl rfl fun a E => ?_
  refine bsplit (decide (x36 < 0)) (fun hc46 => ?_) (fun hc46 => ?_)
  · replace hF := cond_t hc46 hF
    replace E := E.upd 53 hc46 rfl
    refine l_skip E rfl rfl fun a E => ?_
    refine l_skip E rfl rfl fun a E => ?_
    refine l_skip E rfl rfl fun a E => ?_
    refine l_val E ok (y_pickT rfl rfl) rfl rfl fun a E => ?_
    refine wpList_nil ?_
    refine t_norm ?_
    refine c_if E rfl (fun _ => ?_) (fun h => by cases h)
    refine wp_seq ?_
    refine c_region ?_
    refine l_val E ok (y_assign rfl) rfl rfl fun a E => ?_
    refine wpList_nil ?_
    refine t_norm ?_
    refine wp_ret ?_
    refine b_ret ?_
    refine t_ret ?_
    have hret : automaton_Valid_R u m0 S false a w := ⟨ok.drop, E.d, ⟨rv_t E rfl, trivial⟩⟩
    obtain rfl := Option.some.inj hF
    exact step_o (by nofun) (sr ⟨rfl, hret⟩)
  replace hF := cond_f hc46 hF
  replace E := E.upd 53 hc46 rfl
  refine l_val E ok (y_move rfl) rfl rfl fun a E => ?_
  refine l_val E ok (y_move rfl) rfl rfl fun a E => ?_
  refine l_val E ok (y_geq rfl rfl) rfl rfl fun a E => ?_
  refine l_val E ok (y_pickF rfl rfl) rfl rfl fun a E => ?_
  refine wpList_nil ?_
  refine t_norm ?_
  refine c_if E rfl (fun hc47 => ?_) (fun hc47 => ?_)
  rotate_left
  · replace hF := cond_f hc47 hF
    refine wp_skip ?_
    refine b_norm ?_
    refine t_norm ?_
    refine c_region ?_
    refine l_val E ok (y_add rfl rfl (InR.inc r34 (pL_InR h28) hc35)) rfl rfl fun a E => ?_
    refine l_val E ok (y_move rfl) rfl rfl fun a E => ?_
    refine wpList_nil ?_
    obtain rfl := Option.some.inj hF
    exact step_n ⟨ok, E.keep [3, 36, 37, 38, 45, 46, 47], (InR.inc r34 (pL_InR h28) hc35)⟩
  replace hF := cond_t hc47 hF
  refine wp_seq ?_
  refine c_region ?_
  refine l_val E ok (y_assign rfl) rfl rfl fun a E => ?_
  refine wpList_nil ?_
  refine t_norm ?_
  refine wp_ret ?_
  refine b_ret ?_
  refine t_ret ?_
  have hret : automaton_Valid_R u m0 S false a w := ⟨ok.drop, E.d, ⟨rv_t E rfl, trivial⟩⟩
  obtain rfl := Option.some.inj hF
  exact step_o (by nofun) (sr ⟨rfl, hret⟩)

def automaton_character_R (u : World) (m0 : Mem) (S : Segs) (r : Int) (a : Act) (w : World) : Prop :=
  Ok u m0 S w ∧ a.defers = [] ∧ RVs Try.prog a w [.t 2 (.int .u8 r)] ∧ InR .u8 r
set_option maxHeartbeats 4000000 in
set_option maxRecDepth 100000 in
theorem automaton_character_w {u : World} {m0 : Mem} {S : Segs} {w : World} (N : Nat) (c_0 : Int) (rc_0 : InR .i64 c_0) {r : Int} (hF : automaton_character N c_0 = some r) (ok : Ok u m0 S w) :
    Calls Try.prog 38 [Value.int .i64 c_0].toArray w fun e w' => (e = .returned (.int .u8 r) ∧ Ok u m0 S w') ∧ InR .u8 r := by
  have le_m0 := Mem.le.refl m0
  unfold automaton_character at hF
  have fin : ∀ a w, automaton_character_R u m0 S r a w → bodyPost Try.prog Try.f38 (fun e w' => (e = .returned (.int .u8 r) ∧ Ok u m0 S w') ∧ InR .u8 r) .ret a w := by
    intro a w h
    obtain ⟨ok, hd, hrv, h0⟩ := h
    exact c_ret2 [.t 2 (.int .u8 r)] hd rfl hrv ⟨⟨rfl, ok⟩, h0⟩
  refine enter Try.func38 rfl rfl rfl fun a E => ?_
  refine wp_seq ?_
  refine c_region ?_
  refine l_val E ok (y_assign rfl) rfl rfl fun a E => ?_
  refine wpList_nil ?_
  refine t_norm ?_
  refine wp_seq ?_
  refine wp_seq ?_
  refine c_region ?_
  refine l_val E ok (y_move rfl) rfl rfl fun a E => ?_
  refine l_val E ok (y_eql rfl rfl) rfl rfl fun a E => ?_
  refine wpList_nil ?_
  refine t_norm ?_
  refine c_if E rfl (fun hc1 => ?_) (fun hc1 => ?_)
  · replace hF := cond_t hc1 hF
    refine wp_seq ?_
    refine c_region ?_
    refine l_val E ok (y_assign rfl) rfl rfl fun a E => ?_
    refine wpList_nil ?_
    refine t_norm ?_
    refine wp_ret ?_
    refine t_ret ?_
    have hret : automaton_character_R u m0 S 46 a w := ⟨ok, E.d, ⟨rv_t E rfl, trivial⟩, (show InR .u8 (46) by decide)⟩
    obtain rfl := Option.some.inj hF
    exact fin _ _ hret
  replace hF := cond_f hc1 hF
  refine wp_skip ?_
  refine t_norm ?_
  refine wp_seq ?_
  refine c_region ?_
  refine l_val E ok (y_move rfl) rfl rfl fun a E => ?_
  refine l_val E ok (y_addw rfl rfl) rfl rfl fun a E => ?_
  refine l_val E ok (y_conv Try.underlying3 Try.underlying5 rfl) rfl rfl fun a E => ?_
  refine l_val E ok (y_assign rfl) rfl rfl fun a E => ?_
  refine wpList_nil ?_
  refine t_norm ?_
  refine wp_ret ?_
  have hret : automaton_character_R u m0 S (IntKind.wrap .u8 (IntKind.wrap .i64 ((48 : Int) + c_0))) a w := ⟨ok, E.d, ⟨rv_t E rfl, trivial⟩, (InR.wrap _ _)⟩
  obtain rfl := Option.some.inj hF
  exact fin _ _ hret

def automaton_Shortest_R (u : World) (m0 : Mem) (S : Segs) (r : (List UInt8) × Bool × Int) (a : Act) (w : World) : Prop :=
  Ok u m0 S w ∧ a.defers = [] ∧ RVs Try.prog a w [.t 2 (.string (bs r.1)), .t 3 (.bool r.2.1), .t 4 (.int .i64 r.2.2)] ∧ r.1.length ≤ LIMS ∧ InR .i64 r.2.2
set_option maxHeartbeats 4000000 in
set_option maxRecDepth 100000 in
theorem automaton_Shortest_w {u : World} {m0 : Mem} {S : Segs} {w : World} (N : Nat) (vd_0 : List Value) (d_0 : DFA) (hd_0 : pDFA m0 vd_0 d_0) {r : (List UInt8) × Bool × Int} (hF : automaton_Shortest N d_0 = some r) (ok : Ok u m0 S w) :
    Calls Try.prog 18 [.agg vd_0.toArray].toArray w fun e w' => (e = .returned (.tuple [(.string (bs r.1)), (.bool r.2.1), (.int .i64 r.2.2)].toArray) ∧ Ok u m0 S w') ∧ r.1.length ≤ LIMS ∧ InR .i64 r.2.2 := by
  obtain ⟨c2, c4, rfl, r1, h3, h5⟩ := hd_0
  have le_m0 := Mem.le.refl m0
  unfold automaton_Shortest at hF
  have fin : ∀ a w, automaton_Shortest_R u m0 S r a w → bodyPost Try.prog Try.f18 (fun e w' => (e = .returned (.tuple [(.string (bs r.1)), (.bool r.2.1), (.int .i64 r.2.2)].toArray) ∧ Ok u m0 S w') ∧ r.1.length ≤ LIMS ∧ InR .i64 r.2.2) .ret a w := by
    intro a w h
    obtain ⟨ok, hd, hrv, h0, h1⟩ := h
    exact c_ret2 [.t 2 (.string (bs r.1)), .t 3 (.bool r.2.1), .t 4 (.int .i64 r.2.2)] hd rfl hrv ⟨⟨rfl, ok⟩, h0, h1⟩
  refine enter Try.func18 rfl rfl rfl fun a E => ?_
  refine wp_seq ?_
  refine c_region ?_
  refine l_box E ok rfl rfl rfl fun b6 a w E ok => ?_
  refine l_val E ok (y_assign rfl) rfl rfl fun a E => ?_
  refine l_val E ok (y_assign rfl) rfl rfl fun a E => ?_
  refine l_val E ok (y_assign rfl) rfl rfl fun a E => ?_
  refine wpList_nil ?_
  refine t_norm ?_
  refine wp_seq ?_
  refine wp_seq ?_
  refine c_region ?_
  refine l_val E ok (y_loadAgg (cs := [(Value.int .i64 d_0.Start), c2, c4]) agg_29 rfl rfl (Holds.own 0 rfl rfl)) rfl rfl fun a E => ?_
  obtain ⟨r7, e8, hF⟩ := bnd hF
  refine l_call E go_13 rfl (automaton_Valid_w N _ d_0 ⟨_, _, rfl, r1, h3, h5⟩ e8 ok) rfl rfl ?_
  rintro _ w ⟨rfl, ok⟩
  refine ⟨_, rfl, fun a E => ?_⟩
  refine l_val E ok (y_not rfl) rfl rfl fun a E => ?_
  refine wpList_nil ?_
  refine t_norm ?_
  refine c_if E rfl (fun hc9 => ?_) (fun hc9 => ?_)
  · replace hF := cond_t hc9 hF
    refine wp_seq ?_
    refine c_region ?_
    refine l_val E ok (y_assign rfl) rfl rfl fun a E => ?_
    refine l_val E ok (y_assign rfl) rfl rfl fun a E => ?_
    refine l_val E ok (y_assign rfl) rfl rfl fun a E => ?_
    refine wpList_nil ?_
    refine t_norm ?_
    refine wp_ret ?_
    refine t_ret ?_
    have hret : automaton_Shortest_R u m0 S ([], false, 1) a w := ⟨ok.drop, E.d, ⟨rv_t E rfl, rv_t E rfl, rv_t E rfl, trivial⟩, (by decide), (show InR .i64 (1) by decide)⟩
    obtain rfl := Option.some.inj hF
    exact fin _ _ hret
  replace hF := cond_f hc9 hF
  refine wp_skip ?_
  refine t_norm ?_
  refine wp_seq ?_
  refine c_region ?_
  refine l_makeMap (kI .i64) (oneV pS) E ok rfl rfl fun c10 M11 a w E ok h12 => ?_
  refine l_val E ok (y_fieldAddr fo_29_0 rfl) rfl rfl fun a E => ?_
  refine l_val E ok (y_load one_3 rfl (Holds.own 1 rfl rfl)) rfl rfl fun a E => ?_
  obtain ⟨l13, e14, hF⟩ := bnd hF
  refine l_mset (.inr rfl) E ok 0 (keyR_int Try.underlying3) Try.underlying59 h12 rfl rfl rfl rfl ⟨rfl, r1⟩ (pS_mk (by decide)) e14 rfl fun M15 w ok h16 => ?_
  refine l_val E ok (y_move rfl) rfl rfl fun a E => ?_
  refine l_val E ok (y_assign rfl) rfl rfl fun a E => ?_
  refine wpList_nil ?_
  refine t_norm ?_
  refine wp_seq ?_
  refine c_region ?_
  refine l_val E ok (y_fieldAddr fo_29_0 rfl) rfl rfl fun a E => ?_
  refine l_val E ok (y_load one_3 rfl (Holds.own 1 rfl rfl)) rfl rfl fun a E => ?_
  refine l_slit (R := (pI .i64)) (xo := [.tmp 20]) (xs := ([d_0.Start] : List (Int))) E ok sl_56 zero_3 rfl ⟨⟨_, rfl, rfl, (pI_mk r1)⟩, trivial⟩ rfl rfl rfl rfl fun c17 M18 a w E ok h19 => ?_
  refine l_val E ok (y_assign rfl) rfl rfl fun a E => ?_
  refine wpList_nil ?_
  refine t_norm ?_
  refine wp_seq ?_
  refine wp_block ?_
  obtain ⟨o29, hL, hF⟩ := bnd hF
  refine c_loop _ (fun (s : (List (Int)) × (List (Int × List UInt8))) a w => ∃ c30 M31 c33 M34, Ok u m0 (M31 :: M34 :: [(b6, Obj.cells [(Value.int .i64 d_0.Start), c2, c4].toArray 29 (0, 0))] :: S) w ∧ Env 72 a [(1, (Value.pointer (some ⟨b6, 0, none⟩))), (5, c33), (6, c30)] ∧ ORow 3 1 (pI .i64) m0 c30 s.1 M31 ∧ OMap (kI .i64) (oneV pS) m0 c33 s.2 M34) (fun (b : (Unit ⊕ ((List UInt8) × Bool × Int))) e a w => (Sum.elim (fun b190 => e = (.exit 0) ∧ Ok u m0 ([(b6, Obj.cells [(Value.int .i64 d_0.Start), c2, c4].toArray 29 (0, 0))] :: S) w ∧ Env 72 a []) (fun b191 => e = .ret ∧ automaton_Shortest_R u m0 S b191 a w)) b) ?_ ?_ N _ a w hL ⟨c17, M18, c10, M15, ok, E.keep [1, 5, 6], h19, h16⟩
  rotate_left
  · intro e a w _ hO
    rcases o29 with o29 | o29
    rotate_left
    · replace hF := elim_r hF
      obtain ⟨rfl, hret⟩ := hO
      refine b_ret ?_
      refine t_ret ?_
      obtain rfl := Option.some.inj hF
      exact fin _ _ hret
    replace hF := elim_l hF
    obtain ⟨rfl, ok, E⟩ := hO
    refine b_hit ?_
    refine t_norm ?_
    refine wp_seq ?_
    refine c_region ?_
    refine l_val E ok (y_assign rfl) rfl rfl fun a E => ?_
    refine l_val E ok (y_assign rfl) rfl rfl fun a E => ?_
    refine l_val E ok (y_assign rfl) rfl rfl fun a E => ?_
    refine wpList_nil ?_
    refine t_norm ?_
    refine wp_ret ?_
    have hret : automaton_Shortest_R u m0 S ([], false, 0) a w := ⟨ok.drop, E.d, ⟨rv_t E rfl, rv_t E rfl, rv_t E rfl, trivial⟩, (by decide), (show InR .i64 (0) by decide)⟩
    obtain rfl := Option.some.inj hF
    exact fin _ _ hret
  rintro ⟨queue_36, word_37⟩ a w r ⟨c38, M39, c41, M42, ok, E, h40, h43⟩ hF
  replace hF : automaton_Shortest_b1 N d_0 queue_36 word_37 = some r := hF
  unfold automaton_Shortest_b1 at hF
  refine wp_seq ?_
  refine wp_seq ?_
  refine c_region ?_
  refine l_val E ok (y_move rfl) rfl rfl fun a E => ?_
  refine l_val E ok (y_lenR sl_56 h40 rfl) rfl rfl fun a E => ?_
  refine l_val E ok (y_gtr rfl rfl) rfl rfl fun a E => ?_
  refine wpList_nil ?_
  refine t_norm ?_
  refine c_if E rfl (fun hc44 => ?_) (fun hc44 => ?_)
  rotate_left
  · replace hF := cond_f hc44 hF
    refine wp_exit ?_
    refine t_exit ?_
    obtain rfl := Option.some.inj hF
    exact step_o (by nofun) (sl ⟨rfl, ⟨(ok.pk 3 [2] rfl (by decide)), E.keep []⟩⟩)
  replace hF := cond_t hc44 hF
  refine wp_skip ?_
  refine t_norm ?_
  refine wp_block ?_
  refine wp_seq ?_
  refine c_region ?_
  refine l_val E ok (y_move rfl) rfl rfl fun a E => ?_
  obtain ⟨x45, e46, hF⟩ := bnd hF
  obtain ⟨b47, o48, hp49, yy50⟩ := orowAt sl_56 h40 e46 (P := Try.prog) (X := .tmp 25) (I := .const (Value.int .i64 0)) (kd := .i64) (ev_of E rfl) (ev_of E rfl)
  refine l_val E ok (yy50 _ _) rfl rfl fun a E => ?_
  obtain ⟨es51, hl52, rr53, hh54⟩ := orowGet h40 e46 hp49 (by decide)
  obtain ⟨rfl, r55⟩ := rr53
  refine l_val E ok (y_load one_3 rfl (hh54 _ _ _ 0 rfl)) rfl rfl fun a E => ?_
  refine l_val E ok (y_assign rfl) rfl rfl fun a E => ?_
  refine wpList_nil ?_
  refine t_norm ?_
  refine wp_seq ?_
  refine c_region ?_
  refine l_val E ok (y_move rfl) rfl rfl fun a E => ?_
  obtain ⟨l56, e57, hF⟩ := bnd hF
  obtain ⟨c58, h59, yy60⟩ := ORow.slice sl_56 h40 e57 (P := Try.prog) (X := .tmp 28) (lov := (some (.const (Value.int .i64 1)))) (hiv := none) (ev_of E rfl) (sb_of E ⟨_, rfl⟩) (sb_of E rfl)
  refine l_val E ok (yy60 _ _) rfl rfl fun a E => ?_
  refine l_val E ok (y_assign rfl) rfl rfl fun a E => ?_
  refine wpList_nil ?_
  refine t_norm ?_
  refine wp_seq ?_
  refine wp_seq ?_
  refine c_region ?_
  refine l_val E ok (y_fieldAddr fo_29_2 rfl) rfl rfl fun a E => ?_
  refine l_val E ok (y_load one_23 rfl (Holds.own 2 rfl rfl)) rfl rfl fun a E => ?_
  refine l_val E ok (y_move rfl) rfl rfl fun a E => ?_
  obtain ⟨x61, e62, hF⟩ := bnd hF
  obtain ⟨b63, o64, es65, hl66, rr67, at68, yy69⟩ := idxAt sl_23 h5 e62 (P := Try.prog) (X := .tmp 31) (I := .tmp 32) (kd := .i64) (ev_of E rfl) (ev_of E rfl)
  obtain rfl := rr67
  refine l_val E ok (yy69 _ _) rfl rfl fun a E => ?_
  refine l_val E ok (y_load one_4 rfl (Holds.ro at68)) rfl rfl fun a E => ?_
  refine wpList_nil ?_
  refine t_norm ?_
  refine c_if E rfl (fun hc70 => ?_) (fun hc70 => ?_)
  · replace hF := cond_t hc70 hF
    refine wp_seq ?_
    refine c_region ?_
    refine l_val E ok (y_move rfl) rfl rfl fun a E => ?_
    refine l_val E ok (y_move rfl) rfl rfl fun a E => ?_
    obtain ⟨xv71, h72, yy73, yy74⟩ := mlook (P := Try.prog) (mo := .tmp 35) (ko := .tmp 36) (zx := ([] : List UInt8)) ok 1 (keyR_int Try.underlying3) Try.underlying59 h43 rfl (ev_of E rfl) (ev_of E rfl) ⟨rfl, r55⟩ zeroV_9 (pS_mk (Nat.zero_le _))
    obtain ⟨rfl, l75⟩ := pS_inv h72
    refine l_val E ok (yy73 _) rfl rfl fun a E => ?_
    refine l_val E ok (y_assign rfl) rfl rfl fun a E => ?_
    refine l_val E ok (y_assign rfl) rfl rfl fun a E => ?_
    refine l_val E ok (y_assign rfl) rfl rfl fun a E => ?_
    refine wpList_nil ?_
    refine t_norm ?_
    refine wp_ret ?_
    refine t_ret ?_
    refine b_ret ?_
    have hret : automaton_Shortest_R u m0 S (((mget word_37 x45).getD []), true, 0) a w := ⟨ok.drop.drop.drop, E.d, ⟨rv_t E rfl, rv_t E rfl, rv_t E rfl, trivial⟩, l75, (show InR .i64 (0) by decide)⟩
    obtain rfl := Option.some.inj hF
    exact step_o (by nofun) (sr ⟨rfl, hret⟩)
  replace hF := cond_f hc70 hF
  refine wp_skip ?_
  refine t_norm ?_
  refine wp_seq ?_
  refine c_region ?_
  refine l_val E ok (y_fieldAddr fo_29_1 rfl) rfl rfl fun a E => ?_
  refine l_val E ok (y_load one_22 rfl (Holds.own 2 rfl rfl)) rfl rfl fun a E => ?_
  refine l_val E ok (y_move rfl) rfl rfl fun a E => ?_
  obtain ⟨x76, e77, hF⟩ := bnd hF
  obtain ⟨b78, o79, es80, hl81, rr82, at83, yy84⟩ := idxAt sl_22 h3 e77 (P := Try.prog) (X := .tmp 39) (I := .tmp 40) (kd := .i64) (ev_of E rfl) (ev_of E rfl)
  obtain ⟨c85, rfl, h86⟩ := pL_cell rr82
  refine l_val E ok (yy84 _ _) rfl rfl fun a E => ?_
  refine l_val E ok (y_load one_56 rfl (Holds.ro at83)) rfl rfl fun a E => ?_
  refine l_val E ok (y_lenL sl_56 h86 rfl) rfl rfl fun a E => ?_
  refine l_val E ok (y_move rfl) rfl rfl fun a E => ?_
  refine wpList_nil ?_
  refine t_norm ?_
  refine wp_block ?_
  obtain ⟨o98, hL, hF⟩ := bnd hF
  refine c_loop _ (fun (s : (List (Int)) × Int × (List (Int × List UInt8))) a w => ∃ c99 M100 c103 M104, Ok u m0 (M100 :: M104 :: [(b6, Obj.cells [(Value.int .i64 d_0.Start), c2, c4].toArray 29 (0, 0))] :: S) w ∧ Env 72 a [(1, (Value.pointer (some ⟨b6, 0, none⟩))), (5, c103), (6, c99), (7, (Value.int .i64 x45)), (42, c85), (43, (Value.int .i64 (x76.length : Int))), (44, (Value.int .i64 s.2.1))] ∧ ORow 3 1 (pI .i64) m0 c99 s.1 M100 ∧ InR .i64 s.2.1 ∧ OMap (kI .i64) (oneV pS) m0 c103 s.2.2 M104) (fun (b : ((List (Int × List UInt8)) × (List (Int)))) e a w => e = (.exit 2) ∧ ∃ c184 M185 c187 M188, Ok u m0 (M188 :: M185 :: [(b6, Obj.cells [(Value.int .i64 d_0.Start), c2, c4].toArray 29 (0, 0))] :: S) w ∧ Env 72 a [(1, (Value.pointer (some ⟨b6, 0, none⟩))), (5, c184), (6, c187)] ∧ OMap (kI .i64) (oneV pS) m0 c184 b.1 M185 ∧ ORow 3 1 (pI .i64) m0 c187 b.2 M188) ?_ ?_ N _ a w hL ⟨c58, M39, c41, M42, ok, E.keep [1, 5, 6, 7, 42, 43, 44], h59, (show InR .i64 (0) by decide), h43⟩
  rotate_left
  · intro e a w _ hO
    obtain ⟨rfl, c178, M179, c181, M182, ok, E, h180, h183⟩ := hO
    refine b_hit ?_
    refine b_norm ?_
    obtain rfl := Option.some.inj hF
    exact step_n ⟨c181, M182, c178, M179, ok, E.keep [1, 5, 6], h183, h180⟩
  rintro ⟨queue_106, x_107, word_108⟩ a w r ⟨c109, M110, c113, M114, ok, E, h111, r112, h115⟩ hF
  replace hF : automaton_Shortest_b2 N x45 x76 queue_106 x_107 word_108 = some r := hF
  unfold automaton_Shortest_b2 at hF
  refine wp_seq ?_
  refine c_region ?_
  refine l_val E ok (y_lss rfl rfl) rfl rfl fun a E => ?_
  refine wpList_nil ?_
  refine t_norm ?_
  refine wp_seq ?_
  refine c_if E rfl (fun hc116 => ?_) (fun hc116 => ?_)
  rotate_left
  · replace hF := cond_f hc116 hF
    refine wp_exit ?_
    refine t_exit ?_
    obtain rfl := Option.some.inj hF
    exact step_o (by nofun) (⟨rfl, ⟨c113, M114, c109, M110, ok, E.keep [1, 5, 6], h115, h111⟩⟩)
  replace hF := cond_t hc116 hF
  refine wp_skip ?_
  refine t_norm ?_
  refine wp_seq ?_
  refine wp_block ?_
  refine wp_seq ?_
  refine c_region ?_
  refine l_val E ok (y_move rfl) rfl rfl fun a E => ?_
  obtain ⟨x117, e118, hF⟩ := bnd hF
  obtain ⟨b119, o120, es121, hl122, rr123, at124, yy125⟩ := idxAt sl_56 h86 e118 (P := Try.prog) (X := .tmp 42) (I := .tmp 44) (kd := .i64) (ev_of E rfl) (ev_of E rfl)
  obtain ⟨rfl, r126⟩ := rr123
  refine l_val E ok (yy125 _ _) rfl rfl fun a E => ?_
  refine l_val E ok (y_load one_3 rfl (Holds.ro at124)) rfl rfl fun a E => ?_
  refine l_val E ok (y_assign rfl) rfl rfl fun a E => ?_
  refine l_val E ok (y_assign rfl) rfl rfl fun a E => ?_
  refine wpList_nil ?_
  refine t_norm ?_
  refine wp_seq ?_
  refine c_region ?_
  refine l_val E ok (y_move rfl) rfl rfl fun a E => ?_
  refine l_val E ok (y_move rfl) rfl rfl fun a E => ?_
  obtain ⟨xv127, h128, yy129, yy130⟩ := mlook (P := Try.prog) (mo := .tmp 50) (ko := .tmp 51) (zx := ([] : List UInt8)) ok 1 (keyR_int Try.underlying3) Try.underlying59 h115 rfl (ev_of E rfl) (ev_of E rfl) ⟨rfl, r126⟩ zeroV_9 (pS_mk (Nat.zero_le _))
  obtain ⟨rfl, l131⟩ := pS_inv h128
  refine l_val E ok (yy130 _) rfl rfl fun a E => ?_
  refine l_val E ok (y_move rfl) rfl rfl fun a E => ?_
  refine l_val E ok (y_extract rfl rfl) rfl rfl fun a E => ?_
  refine l_val E ok (y_extract rfl rfl) rfl rfl fun a E => ?_
  refine l_val E ok (y_assign rfl) rfl rfl fun a E => ?_
  refine l_val E ok (y_assign rfl) rfl rfl fun a E => ?_
  refine wpList_nil ?_
  refine t_norm ?_
  refine wp_seq ?_
  refine c_region ?_
  refine l_val E ok (y_move rfl) rfl rfl fun a E => ?_
  refine l_val E ok (y_not rfl) rfl rfl fun a E => ?_
  refine wpList_nil ?_
  refine t_norm ?_
  refine c_if E rfl (fun hc132 => ?_) (fun hc132 => ?_)
  rotate_left
  · replace hF := cond_f hc132 hF
    refine wp_skip ?_
    refine b_norm ?_
    refine t_norm ?_
    refine c_region ?_
    refine l_val E ok (y_add rfl rfl (InR.inc r112 (pL_InR h86) hc116)) rfl rfl fun a E => ?_
    refine l_val E ok (y_move rfl) rfl rfl fun a E => ?_
    refine wpList_nil ?_
    obtain rfl := Option.some.inj hF
    exact step_n ⟨c109, M110, c113, M114, ok, E.keep [1, 5, 6, 7, 42, 43, 44], h111, (InR.inc r112 (pL_InR h86) hc116), h115⟩
  replace hF := cond_t hc132 hF
  refine wp_seq ?_
  obtain ⟨o133, hJ, hF⟩ := bnd hF
  refine c_mono (Q' := fun e a w => e = .normal ∧ ∃ c134 M135, Ok u m0 (M110 :: M135 :: [(b6, Obj.cells [(Value.int .i64 d_0.Start), c2, c4].toArray 29 (0, 0))] :: S) w ∧ Env 72 a [(1, (Value.pointer (some ⟨b6, 0, none⟩))), (5, c134), (6, c109), (7, (Value.int .i64 x45)), (9, (Value.int .i64 x117)), (42, c85), (43, (Value.int .i64 (x76.length : Int))), (44, (Value.int .i64 x_107))] ∧ OMap (kI .i64) (oneV pS) m0 c134 o133 M135) ?_ ?_
  rotate_left
  · clear hJ
    intro e a w hO
    obtain ⟨rfl, c167, M168, ok, E, h169⟩ := hO
    refine t_norm ?_
    refine c_region ?_
    refine l_val E ok (y_move rfl) rfl rfl fun a E => ?_
    refine l_val E ok (y_move rfl) rfl rfl fun a E => ?_
    refine l_slit (R := (pI .i64)) (xo := [.tmp 68]) (xs := ([x117] : List (Int))) E ok sl_56 zero_3 rfl ⟨⟨_, rfl, rfl, (pI_mk r126)⟩, trivial⟩ rfl rfl rfl rfl fun c170 M171 a w E ok h172 => ?_
    obtain ⟨l173, e174, hF⟩ := bnd hF
    refine l_app (R := (pI .i64)) E ok 1 (mI .i64) sl_56 Try.underlying56 rfl h111 (SrcOK.ofRow h172 0 rfl ok) e174 ⟨_, zero_3, rfl⟩ rfl rfl rfl rfl fun c175 M176 a w E ok h177 => ?_
    refine l_val E ok (y_assign rfl) rfl rfl fun a E => ?_
    refine wpList_nil ?_
    refine b_norm ?_
    refine t_norm ?_
    refine c_region ?_
    refine l_val E ok (y_add rfl rfl (InR.inc r112 (pL_InR h86) hc116)) rfl rfl fun a E => ?_
    refine l_val E ok (y_move rfl) rfl rfl fun a E => ?_
    refine wpList_nil ?_
    obtain rfl := Option.some.inj hF
    exact step_n ⟨c175, M176, c167, M168, (ok.pk 4 [1, 2, 3] rfl (by decide)), E.keep [1, 5, 6, 7, 42, 43, 44], h177, (InR.inc r112 (pL_InR h86) hc116), h169⟩
  replace hF := hJ
  clear hJ
  obtain ⟨r142, e143, hF⟩ := bnd hF
  obtain ⟨s145, e146, hF⟩ := bnd hF
  obtain ⟨l147, e148, hF⟩ := bnd hF
  obtain rfl := Option.some.inj hF
  refine k_begin [] (Cls u m0 (M110 :: [(b6, Obj.cells [(Value.int .i64 d_0.Start), c2, c4].toArray 29 (0, 0))] :: [])) (Cls u m0 (M110 :: [(b6, Obj.cells [(Value.int .i64 d_0.Start), c2, c4].toArray 29 (0, 0))] :: [])) (by kernel_rfl) ?_
  intro w hw
  replace ok := okdrew ok hw
  clear hw
  refine k_next (cl1 ⟨m0, _, le_m0, ok, ⟨memAt 0 rfl, memAt 2 rfl, trivial⟩⟩ ⟨m0, _, le_m0, ok, ⟨memAt 0 rfl, memAt 2 rfl, trivial⟩⟩) fun hT => ?_
  refine k_take 0 E rfl (by kernel_rfl) nP hT (y_move rfl) rfl rfl fun a E => ?_
  refine k_take 1 E rfl (by kernel_rfl) nP hT (y_move rfl) rfl rfl fun a E => ?_
  refine k_take 2 E rfl (by kernel_rfl) nP hT (y_move rfl) rfl rfl fun a E => ?_
  refine k_take 3 E rfl (by kernel_rfl) nP hT (y_move rfl) rfl rfl fun a E => ?_
  refine k_take 5 E rfl (by kernel_rfl) nP hT (y_move rfl) rfl rfl fun a E => ?_
  refine k_all [4, 6] (by kernel_rfl) rfl (all_c ?_ (all_c ?_ (all_n)))
  · refine wpOp_of_list (o := _) rfl ?_
    obtain ⟨xv151, h152, yy153, yy154⟩ := mlook (P := Try.prog) (mo := .tmp 59) (ko := .tmp 60) (zx := ([] : List UInt8)) ok 1 (keyR_int Try.underlying3) Try.underlying59 h115 rfl (ev_of E rfl) (ev_of E rfl) ⟨rfl, r55⟩ zeroV_9 (pS_mk (Nat.zero_le _))
    obtain ⟨rfl, l155⟩ := pS_inv h152
    refine l_val E ok (yy153 _) rfl rfl fun a E => ?_
    refine wpList_nil ?_
    refine t_norm ?_
    refine k_next (cl1 ⟨m0, _, le_m0, ok, ⟨memAt 0 rfl, memAt 2 rfl, trivial⟩⟩ ⟨m0, _, le_m0, ok, ⟨memAt 0 rfl, memAt 2 rfl, trivial⟩⟩) fun hT => ?_
    refine k_all [6] (by kernel_rfl) rfl (one_c ?_)
    · refine wpOp_of_list (o := _) rfl ?_
      refine l_call E go_38 rfl (automaton_character_w N x_107 r112 e143 ok) rfl rfl ?_
      rintro _ w ⟨⟨rfl, ok⟩, r156⟩
      refine ⟨_, rfl, fun a E => ?_⟩
      refine wpList_nil ?_
      refine t_norm ?_
      refine k_next (cl1 ⟨m0, _, le_m0, ok, ⟨memAt 0 rfl, memAt 2 rfl, trivial⟩⟩ ⟨m0, _, le_m0, ok, ⟨memAt 0 rfl, memAt 2 rfl, trivial⟩⟩) fun hT => ?_
      refine k_take 7 E rfl (by kernel_rfl) nP hT (y_convw Try.underlying5 Try.underlying21 rfl r156 (by decide)) rfl rfl fun a E => ?_
      refine k_take 8 E rfl (by kernel_rfl) nP hT (y_runestr Try.underlying21 Try.underlying9 rfl) rfl rfl fun a E => ?_
      refine k_take 9 E rfl (by kernel_rfl) nP hT (y_cat rfl rfl e146) rfl rfl fun a E => ?_
      refine k_all [10] (by kernel_rfl) rfl (one_c ?_)
      · refine wpOp_of_list (o := _) rfl ?_
        refine l_mset (.inl rfl) E ok 1 (keyR_int Try.underlying3) Try.underlying59 h115 rfl rfl rfl rfl ⟨rfl, r126⟩ (pS_mk (cat_len e146)) e148 rfl fun M157 w ok h158 => ?_
        refine wpList_nil ?_
        refine t_norm ?_
        refine k_next (cl1 ⟨m0, _, le_m0, ok, ⟨memAt 0 rfl, memAt 2 rfl, trivial⟩⟩ ⟨m0, _, le_m0, ok, ⟨memAt 0 rfl, memAt 2 rfl, trivial⟩⟩) fun hT => ?_
        refine k_done (by kernel_rfl) ?_
        exact ⟨rfl, ⟨c113, M157, ok, E.keep [1, 5, 6, 7, 9, 42, 43, 44], h158⟩⟩
  refine wpOp_of_list (o := _) rfl ?_
  refine l_call E go_38 rfl (automaton_character_w N x_107 r112 e143 ok) rfl rfl ?_
  rintro _ w ⟨⟨rfl, ok⟩, r159⟩
  refine ⟨_, rfl, fun a E => ?_⟩
  refine wpList_nil ?_
  refine t_norm ?_
  refine k_next (cl1 ⟨m0, _, le_m0, ok, ⟨memAt 0 rfl, memAt 2 rfl, trivial⟩⟩ ⟨m0, _, le_m0, ok, ⟨memAt 0 rfl, memAt 2 rfl, trivial⟩⟩) fun hT => ?_
  refine k_take 7 E rfl (by kernel_rfl) nP hT (y_convw Try.underlying5 Try.underlying21 rfl r159 (by decide)) rfl rfl fun a E => ?_
  refine k_take 8 E rfl (by kernel_rfl) nP hT (y_runestr Try.underlying21 Try.underlying9 rfl) rfl rfl fun a E => ?_
  refine k_all [4] (by kernel_rfl) rfl (one_c ?_)
  · refine wpOp_of_list (o := _) rfl ?_
    obtain ⟨xv160, h161, yy162, yy163⟩ := mlook (P := Try.prog) (mo := .tmp 59) (ko := .tmp 60) (zx := ([] : List UInt8)) ok 1 (keyR_int Try.underlying3) Try.underlying59 h115 rfl (ev_of E rfl) (ev_of E rfl) ⟨rfl, r55⟩ zeroV_9 (pS_mk (Nat.zero_le _))
    obtain ⟨rfl, l164⟩ := pS_inv h161
    refine l_val E ok (yy162 _) rfl rfl fun a E => ?_
    refine wpList_nil ?_
    refine t_norm ?_
    refine k_next (cl1 ⟨m0, _, le_m0, ok, ⟨memAt 0 rfl, memAt 2 rfl, trivial⟩⟩ ⟨m0, _, le_m0, ok, ⟨memAt 0 rfl, memAt 2 rfl, trivial⟩⟩) fun hT => ?_
    refine k_take 9 E rfl (by kernel_rfl) nP hT (y_cat rfl rfl e146) rfl rfl fun a E => ?_
    refine k_all [10] (by kernel_rfl) rfl (one_c ?_)
    · refine wpOp_of_list (o := _) rfl ?_
      refine l_mset (.inl rfl) E ok 1 (keyR_int Try.underlying3) Try.underlying59 h115 rfl rfl rfl rfl ⟨rfl, r126⟩ (pS_mk (cat_len e146)) e148 rfl fun M165 w ok h166 => ?_
      refine wpList_nil ?_
      refine t_norm ?_
      refine k_next (cl1 ⟨m0, _, le_m0, ok, ⟨memAt 0 rfl, memAt 2 rfl, trivial⟩⟩ ⟨m0, _, le_m0, ok, ⟨memAt 0 rfl, memAt 2 rfl, trivial⟩⟩) fun hT => ?_
      refine k_done (by kernel_rfl) ?_
      exact ⟨rfl, ⟨c113, M165, ok, E.keep [1, 5, 6, 7, 9, 42, 43, 44], h166⟩⟩

def automaton_Count_R (u : World) (m0 : Mem) (S : Segs) (r : Int × Int) (a : Act) (w : World) : Prop :=
  Ok u m0 S w ∧ a.defers = [] ∧ RVs Try.prog a w [.t 4 (.int .i64 r.1), .t 5 (.int .i64 r.2)] ∧ InR .i64 r.1 ∧ InR .i64 r.2
set_option maxHeartbeats 4000000 in
set_option maxRecDepth 100000 in
theorem automaton_Count_w {u : World} {m0 : Mem} {S : Segs} {w : World} (N : Nat) (vd_0 : List Value) (d_0 : DFA) (hd_0 : pDFA m0 vd_0 d_0) (n_1 : Int) (rn_1 : InR .i64 n_1) {r : Int × Int} (hF : automaton_Count N d_0 n_1 = some r) (ok : Ok u m0 S w) :
    Calls Try.prog 25 [.agg vd_0.toArray, Value.int .i64 n_1].toArray w fun e w' => (e = .returned (.tuple [(.int .i64 r.1), (.int .i64 r.2)].toArray) ∧ Ok u m0 S w') ∧ InR .i64 r.1 ∧ InR .i64 r.2 := by
  obtain ⟨c2, c4, rfl, r1, h3, h5⟩ := hd_0
  have le_m0 := Mem.le.refl m0
  unfold automaton_Count at hF
  have fin : ∀ a w, automaton_Count_R u m0 S r a w → bodyPost Try.prog Try.f25 (fun e w' => (e = .returned (.tuple [(.int .i64 r.1), (.int .i64 r.2)].toArray) ∧ Ok u m0 S w') ∧ InR .i64 r.1 ∧ InR .i64 r.2) .ret a w := by
    intro a w h
    obtain ⟨ok, hd, hrv, h0, h1⟩ := h
    exact c_ret2 [.t 4 (.int .i64 r.1), .t 5 (.int .i64 r.2)] hd rfl hrv ⟨⟨rfl, ok⟩, h0, h1⟩
  refine enter Try.func25 rfl rfl rfl fun a E => ?_
  refine wp_seq ?_
  refine c_region ?_
  refine l_box E ok rfl rfl rfl fun b6 a w E ok => ?_
  refine l_val E ok (y_assign rfl) rfl rfl fun a E => ?_
  refine l_val E ok (y_assign rfl) rfl rfl fun a E => ?_
  refine wpList_nil ?_
  refine t_norm ?_
  refine wp_seq ?_
  refine wp_block ?_
  refine wp_seq ?_
  refine c_region ?_
  refine l_val E ok (y_loadAgg (cs := [(Value.int .i64 d_0.Start), c2, c4]) agg_29 rfl rfl (Holds.own 0 rfl rfl)) rfl rfl fun a E => ?_
  obtain ⟨r7, e8, hF⟩ := bnd hF
  refine l_call E go_13 rfl (automaton_Valid_w N _ d_0 ⟨_, _, rfl, r1, h3, h5⟩ e8 ok) rfl rfl ?_
  rintro _ w ⟨rfl, ok⟩
  refine ⟨_, rfl, fun a E => ?_⟩
  refine l_val E ok (y_not rfl) rfl rfl fun a E => ?_
  refine l_val E ok (y_assign rfl) rfl rfl fun a E => ?_
  refine wpList_nil ?_
  refine t_norm ?_
  refine c_if E rfl (fun hc9 => ?_) (fun hc9 => ?_)
  · replace hF := cond_t hc9 hF
    refine wp_seq ?_
    refine c_region ?_
    refine l_val E ok (y_assign rfl) rfl rfl fun a E => ?_
    refine l_val E ok (y_assign rfl) rfl rfl fun a E => ?_
    refine wpList_nil ?_
    refine t_norm ?_
    refine wp_ret ?_
    refine b_ret ?_
    refine t_ret ?_
    have hret : automaton_Count_R u m0 S (0, 1) a w := ⟨ok.drop, E.d, ⟨rv_t E rfl, rv_t E rfl, trivial⟩, (show InR .i64 (0) by decide), (show InR .i64 (1) by decide)⟩
    obtain rfl := Option.some.inj hF
    exact fin _ _ hret
  replace hF := cond_f hc9 hF
  refine wp_seq ?_
  refine c_region ?_
  refine l_val E ok (y_move rfl) rfl rfl fun a E => ?_
  refine l_val E ok (y_lss rfl rfl) rfl rfl fun a E => ?_
  refine l_val E ok (y_move rfl) rfl rfl fun a E => ?_
  refine bsplit (decide (n_1 < 0)) (fun hc10 => ?_) (fun hc10 => ?_)
  · replace hF := cond_t hc10 hF
    replace E := E.upd 22 hc10 rfl
    refine l_skip E rfl rfl fun a E => ?_
    refine l_skip E rfl rfl fun a E => ?_
    refine l_val E ok (y_pickT rfl rfl) rfl rfl fun a E => ?_
    refine l_val E ok (y_assign rfl) rfl rfl fun a E => ?_
    refine wpList_nil ?_
    refine t_norm ?_
    refine c_if E rfl (fun _ => ?_) (fun h => by cases h)
    refine wp_seq ?_
    refine c_region ?_
    refine l_val E ok (y_assign rfl) rfl rfl fun a E => ?_
    refine l_val E ok (y_assign rfl) rfl rfl fun a E => ?_
    refine wpList_nil ?_
    refine t_norm ?_
    refine wp_ret ?_
    refine b_ret ?_
    refine t_ret ?_
    have hret : automaton_Count_R u m0 S (0, 2) a w := ⟨ok.drop, E.d, ⟨rv_t E rfl, rv_t E rfl, trivial⟩, (show InR .i64 (0) by decide), (show InR .i64 (2) by decide)⟩
    obtain rfl := Option.some.inj hF
    exact fin _ _ hret
  replace hF := cond_f hc10 hF
  replace E := E.upd 22 hc10 rfl
  refine l_val E ok (y_move rfl) rfl rfl fun a E => ?_
  refine l_val E ok (y_gtr rfl rfl) rfl rfl fun a E => ?_
  refine l_val E ok (y_pickF rfl rfl) rfl rfl fun a E => ?_
  refine l_val E ok (y_assign rfl) rfl rfl fun a E => ?_
  refine wpList_nil ?_
  refine t_norm ?_
  refine c_if E rfl (fun hc11 => ?_) (fun hc11 => ?_)
  · replace hF := cond_t hc11 hF
    refine wp_seq ?_
    refine c_region ?_
    refine l_val E ok (y_assign rfl) rfl rfl fun a E => ?_
    refine l_val E ok (y_assign rfl) rfl rfl fun a E => ?_
    refine wpList_nil ?_
    refine t_norm ?_
    refine wp_ret ?_
    refine b_ret ?_
    refine t_ret ?_
    have hret : automaton_Count_R u m0 S (0, 2) a w := ⟨ok.drop, E.d, ⟨rv_t E rfl, rv_t E rfl, trivial⟩, (show InR .i64 (0) by decide), (show InR .i64 (2) by decide)⟩
    obtain rfl := Option.some.inj hF
    exact fin _ _ hret
  replace hF := cond_f hc11 hF
  refine wp_skip ?_
  refine b_norm ?_
  refine t_norm ?_
  refine wp_seq ?_
  refine c_region ?_
  refine l_val E ok (y_fieldAddr fo_29_1 rfl) rfl rfl fun a E => ?_
  refine l_val E ok (y_load one_22 rfl (Holds.own 0 rfl rfl)) rfl rfl fun a E => ?_
  refine l_val E ok (y_lenL sl_22 h3 rfl) rfl rfl fun a E => ?_
  obtain ⟨l12, e13, hF⟩ := bnd hF
  refine l_make (R := (pI .i64)) E ok sl_56 zero_3 rfl (pI_mk (show InR .i64 0 by decide)) rfl e13 rfl rfl fun c14 M15 a w E ok h16 => ?_
  refine l_val E ok (y_assign rfl) rfl rfl fun a E => ?_
  refine wpList_nil ?_
  refine t_norm ?_
  refine wp_seq ?_
  refine c_region ?_
  refine l_val E ok (y_move rfl) rfl rfl fun a E => ?_
  refine l_val E ok (y_fieldAddr fo_29_0 rfl) rfl rfl fun a E => ?_
  refine l_val E ok (y_load one_3 rfl (Holds.own 1 rfl rfl)) rfl rfl fun a E => ?_
  obtain ⟨x17, e18, hF⟩ := bnd hF
  obtain ⟨b19, o20, hp21, yy22⟩ := orowAt sl_56 h16 e18 (P := Try.prog) (X := .tmp 30) (I := .tmp 32) (kd := .i64) (ev_of E rfl) (ev_of E rfl)
  refine l_val E ok (yy22 _ _) rfl rfl fun a E => ?_
  obtain ⟨l23, e24, hF⟩ := bnd hF
  refine l_storeRow (R := (pI .i64)) E ok 0 rfl h16 e18 hp21 rfl rfl inf_3 rfl rfl rfl ⟨rfl, trivial⟩ (pI_mk (show InR .i64 (1) by decide)) e24 rfl fun M25 w ok h26 => ?_
  refine wpList_nil ?_
  refine t_norm ?_
  refine wp_seq ?_
  refine wp_seq ?_
  refine c_region ?_
  refine l_val E ok (y_move rfl) rfl rfl fun a E => ?_
  refine l_val E ok (y_move rfl) rfl rfl fun a E => ?_
  refine wpList_nil ?_
  refine t_norm ?_
  refine wp_block ?_
  obtain ⟨o31, hL, hF⟩ := bnd hF
  refine c_loop _ (fun (s : (List (Int)) × Int) a w => ∃ c32 M33, Ok u m0 (M33 :: [(b6, Obj.cells [(Value.int .i64 d_0.Start), c2, c4].toArray 29 (0, 0))] :: S) w ∧ Env 85 a [(2, (Value.pointer (some ⟨b6, 0, none⟩))), (6, c32), (34, (Value.int .i64 n_1)), (35, (Value.int .i64 s.2))] ∧ ORow 3 1 (pI .i64) m0 c32 s.1 M33 ∧ InR .i64 s.2) (fun (b : ((List (Int)))) e a w => e = (.exit 1) ∧ ∃ c183 M184, Ok u m0 (M184 :: [(b6, Obj.cells [(Value.int .i64 d_0.Start), c2, c4].toArray 29 (0, 0))] :: S) w ∧ Env 85 a [(2, (Value.pointer (some ⟨b6, 0, none⟩))), (6, c183)] ∧ ORow 3 1 (pI .i64) m0 c183 b M184) ?_ ?_ N _ a w hL ⟨c14, M25, ok, E.keep [2, 6, 34, 35], h26, (show InR .i64 (0) by decide)⟩
  rotate_left
  · as_aux_lemma =>
      intro e a w _ hO
      obtain ⟨rfl, c147, M148, ok, E, h149⟩ := hO
      refine b_hit ?_
      refine t_norm ?_
      refine wp_seq ?_
      refine c_region ?_
      refine l_val E ok (y_assign rfl) rfl rfl fun a E => ?_
      refine wpList_nil ?_
      refine t_norm ?_
      refine wp_seq ?_
      refine wp_seq ?_
      refine c_region ?_
      refine l_val E ok (y_move rfl) rfl rfl fun a E => ?_
      refine l_val E ok (y_lenR sl_56 h149 rfl) rfl rfl fun a E => ?_
      refine l_val E ok (y_move rfl) rfl rfl fun a E => ?_
      refine wpList_nil ?_
      refine t_norm ?_
      refine wp_block ?_
      obtain ⟨o152, hL, hF⟩ := bnd hF
      refine c_loop _ (fun (s : Int × Int) a w => Ok u m0 (M148 :: [(b6, Obj.cells [(Value.int .i64 d_0.Start), c2, c4].toArray 29 (0, 0))] :: S) w ∧ Env 85 a [(2, (Value.pointer (some ⟨b6, 0, none⟩))), (12, (Value.int .i64 s.1)), (68, c147), (69, (Value.int .i64 (o31.length : Int))), (70, (Value.int .i64 s.2))] ∧ InR .i64 s.1 ∧ InR .i64 s.2) (fun (b : Int) e a w => e = (.exit 7) ∧ Ok u m0 (M148 :: [(b6, Obj.cells [(Value.int .i64 d_0.Start), c2, c4].toArray 29 (0, 0))] :: S) w ∧ Env 85 a [(12, (Value.int .i64 b))] ∧ InR .i64 b) ?_ ?_ N _ a w hL ⟨ok, E.keep [2, 12, 68, 69, 70], (show InR .i64 (0) by decide), (show InR .i64 (0) by decide)⟩
      rotate_left
      · intro e a w _ hO
        obtain ⟨rfl, ok, E, r181⟩ := hO
        refine b_hit ?_
        refine t_norm ?_
        refine wp_seq ?_
        refine c_region ?_
        refine l_val E ok (y_move rfl) rfl rfl fun a E => ?_
        refine l_val E ok (y_assign rfl) rfl rfl fun a E => ?_
        refine l_val E ok (y_assign rfl) rfl rfl fun a E => ?_
        refine wpList_nil ?_
        refine t_norm ?_
        refine wp_ret ?_
        have hret : automaton_Count_R u m0 S (o152, 0) a w := ⟨ok.drop.drop, E.d, ⟨rv_t E rfl, rv_t E rfl, trivial⟩, r181, (show InR .i64 (0) by decide)⟩
        obtain rfl := Option.some.inj hF
        exact fin _ _ hret
      rintro ⟨sum_155, x_156⟩ a w r ⟨ok, E, r157, r158⟩ hF
      replace hF : automaton_Count_b4 N d_0 o31 sum_155 x_156 = some r := hF
      unfold automaton_Count_b4 at hF
      refine wp_seq ?_
      refine c_region ?_
      refine l_val E ok (y_lss rfl rfl) rfl rfl fun a E => ?_
      refine wpList_nil ?_
      refine t_norm ?_
      refine wp_seq ?_
      refine c_if E rfl (fun hc159 => ?_) (fun hc159 => ?_)
      rotate_left
      · replace hF := cond_f hc159 hF
        refine wp_exit ?_
        refine t_exit ?_
        obtain rfl := Option.some.inj hF
        exact step_o (by nofun) (⟨rfl, ⟨ok, E.keep [12], r157⟩⟩)
      replace hF := cond_t hc159 hF
      refine wp_skip ?_
      refine t_norm ?_
      refine wp_seq ?_
      refine wp_block ?_
      refine wp_seq ?_
      refine c_region ?_
      refine l_val E ok (y_move rfl) rfl rfl fun a E => ?_
      obtain ⟨x160, e161, hF⟩ := bnd hF
      obtain ⟨b162, o163, hp164, yy165⟩ := orowAt sl_56 h149 e161 (P := Try.prog) (X := .tmp 68) (I := .tmp 70) (kd := .i64) (ev_of E rfl) (ev_of E rfl)
      refine l_val E ok (yy165 _ _) rfl rfl fun a E => ?_
      obtain ⟨es166, hl167, rr168, hh169⟩ := orowGet h149 e161 hp164 (by decide)
      obtain ⟨rfl, r170⟩ := rr168
      refine l_val E ok (y_load one_3 rfl (hh169 _ _ _ 0 rfl)) rfl rfl fun a E => ?_
      refine l_val E ok (y_assign rfl) rfl rfl fun a E => ?_
      refine l_val E ok (y_assign rfl) rfl rfl fun a E => ?_
      refine wpList_nil ?_
      refine t_norm ?_
      refine wp_seq ?_
      refine c_region ?_
      refine l_val E ok (y_fieldAddr fo_29_2 rfl) rfl rfl fun a E => ?_
      refine l_val E ok (y_load one_23 rfl (Holds.own 1 rfl rfl)) rfl rfl fun a E => ?_
      refine l_val E ok (y_move rfl) rfl rfl fun a E => ?_
      obtain ⟨x171, e172, hF⟩ := bnd hF
      obtain ⟨b173, o174, es175, hl176, rr177, at178, yy179⟩ := idxAt sl_23 h5 e172 (P := Try.prog) (X := .tmp 76) (I := .tmp 77) (kd := .i64) (ev_of E rfl) (ev_of E rfl)
      obtain rfl := rr177
      refine l_val E ok (yy179 _ _) rfl rfl fun a E => ?_
      refine l_val E ok (y_load one_4 rfl (Holds.ro at178)) rfl rfl fun a E => ?_
      refine wpList_nil ?_
      refine t_norm ?_
      refine c_if E rfl (fun hc180 => ?_) (fun hc180 => ?_)
      rotate_left
      · replace hF := cond_f hc180 hF
        refine wp_skip ?_
        refine b_norm ?_
        refine t_norm ?_
        refine c_region ?_
        refine l_val E ok (y_add rfl rfl (InR.inc r158 (ORow.InR h149) hc159)) rfl rfl fun a E => ?_
        refine l_val E ok (y_move rfl) rfl rfl fun a E => ?_
        refine wpList_nil ?_
        obtain rfl := Option.some.inj hF
        exact step_n ⟨ok, E.keep [2, 12, 68, 69, 70], r157, (InR.inc r158 (ORow.InR h149) hc159)⟩
      replace hF := cond_t hc180 hF
      refine c_region ?_
      refine l_val E ok (y_move rfl) rfl rfl fun a E => ?_
      refine l_val E ok (y_move rfl) rfl rfl fun a E => ?_
      refine l_val E ok (y_addw rfl rfl) rfl rfl fun a E => ?_
      refine l_val E ok (y_assign rfl) rfl rfl fun a E => ?_
      refine wpList_nil ?_
      refine b_norm ?_
      refine t_norm ?_
      refine c_region ?_
      refine l_val E ok (y_add rfl rfl (InR.inc r158 (ORow.InR h149) hc159)) rfl rfl fun a E => ?_
      refine l_val E ok (y_move rfl) rfl rfl fun a E => ?_
      refine wpList_nil ?_
      obtain rfl := Option.some.inj hF
      exact step_n ⟨ok, E.keep [2, 12, 68, 69, 70], (InR.wrap _ _), (InR.inc r158 (ORow.InR h149) hc159)⟩
  rintro ⟨words_36, x_37⟩ a w r ⟨c38, M39, ok, E, h40, r41⟩ hF
  replace hF : automaton_Count_b1 N d_0 n_1 words_36 x_37 = some r := hF
  unfold automaton_Count_b1 at hF
  refine wp_seq ?_
  refine c_region ?_
  refine l_val E ok (y_lss rfl rfl) rfl rfl fun a E => ?_
  refine wpList_nil ?_
  refine t_norm ?_
  refine wp_seq ?_
  refine c_if E rfl (fun hc42 => ?_) (fun hc42 => ?_)
  rotate_left
  · replace hF := cond_f hc42 hF
    refine wp_exit ?_
    refine t_exit ?_
    obtain rfl := Option.some.inj hF
    exact step_o (by nofun) (⟨rfl, ⟨c38, M39, ok, E.keep [2, 6], h40⟩⟩)
  replace hF := cond_t hc42 hF
  refine wp_skip ?_
  refine t_norm ?_
  refine wp_seq ?_
  refine wp_block ?_
  refine wp_seq ?_
  refine c_region ?_
  refine l_val E ok (y_move rfl) rfl rfl fun a E => ?_
  refine l_val E ok (y_lenR sl_56 h40 rfl) rfl rfl fun a E => ?_
  obtain ⟨l43, e44, hF⟩ := bnd hF
  refine l_make (R := (pI .i64)) E ok sl_56 zero_3 rfl (pI_mk (show InR .i64 0 by decide)) rfl e44 rfl rfl fun c45 M46 a w E ok h47 => ?_
  refine l_val E ok (y_assign rfl) rfl rfl fun a E => ?_
  refine wpList_nil ?_
  refine t_norm ?_
  refine wp_seq ?_
  refine wp_seq ?_
  refine c_region ?_
  refine l_val E ok (y_move rfl) rfl rfl fun a E => ?_
  refine l_val E ok (y_lenR sl_56 h40 rfl) rfl rfl fun a E => ?_
  refine l_val E ok (y_move rfl) rfl rfl fun a E => ?_
  refine wpList_nil ?_
  refine t_norm ?_
  refine wp_block ?_
  obtain ⟨o53, hL, hF⟩ := bnd hF
  refine c_loop _ (fun (s : Int × (List (Int))) a w => ∃ c55 M56, Ok u m0 (M56 :: M39 :: [(b6, Obj.cells [(Value.int .i64 d_0.Start), c2, c4].toArray 29 (0, 0))] :: S) w ∧ Env 85 a [(2, (Value.pointer (some ⟨b6, 0, none⟩))), (7, c55), (34, (Value.int .i64 n_1)), (35, (Value.int .i64 x_37)), (40, c38), (41, (Value.int .i64 (words_36.length : Int))), (42, (Value.int .i64 s.1))] ∧ InR .i64 s.1 ∧ ORow 3 1 (pI .i64) m0 c55 s.2 M56) (fun (b : ((List (Int)))) e a w => e = (.exit 3) ∧ ∃ c144 M145, Ok u m0 (M145 :: M39 :: [(b6, Obj.cells [(Value.int .i64 d_0.Start), c2, c4].toArray 29 (0, 0))] :: S) w ∧ Env 85 a [(2, (Value.pointer (some ⟨b6, 0, none⟩))), (7, c144), (34, (Value.int .i64 n_1)), (35, (Value.int .i64 x_37))] ∧ ORow 3 1 (pI .i64) m0 c144 b M145) ?_ ?_ N _ a w hL ⟨c45, M46, ok, E.keep [2, 7, 34, 35, 40, 41, 42], (show InR .i64 (0) by decide), h47⟩
  rotate_left
  · intro e a w _ hO
    obtain ⟨rfl, c141, M142, ok, E, h143⟩ := hO
    refine b_hit ?_
    refine t_norm ?_
    refine c_region ?_
    refine l_val E ok (y_move rfl) rfl rfl fun a E => ?_
    refine l_val E ok (y_assign rfl) rfl rfl fun a E => ?_
    refine wpList_nil ?_
    refine b_norm ?_
    refine t_norm ?_
    refine c_region ?_
    refine l_val E ok (y_add rfl rfl (InR.inc r41 rn_1 hc42)) rfl rfl fun a E => ?_
    refine l_val E ok (y_move rfl) rfl rfl fun a E => ?_
    refine wpList_nil ?_
    obtain rfl := Option.some.inj hF
    exact step_n ⟨c141, M142, (ok.pk 3 [0, 2] rfl (by decide)), E.keep [2, 6, 34, 35], h143, (InR.inc r41 rn_1 hc42)⟩
  rintro ⟨x_58, next_59⟩ a w r ⟨c61, M62, ok, E, r60, h63⟩ hF
  replace hF : automaton_Count_b2 N d_0 words_36 x_58 next_59 = some r := hF
  unfold automaton_Count_b2 at hF
  refine wp_seq ?_
  refine c_region ?_
  refine l_val E ok (y_lss rfl rfl) rfl rfl fun a E => ?_
  refine wpList_nil ?_
  refine t_norm ?_
  refine wp_seq ?_
  refine c_if E rfl (fun hc64 => ?_) (fun hc64 => ?_)
  rotate_left
  · replace hF := cond_f hc64 hF
    refine wp_exit ?_
    refine t_exit ?_
    obtain rfl := Option.some.inj hF
    exact step_o (by nofun) (⟨rfl, ⟨c61, M62, ok, E.keep [2, 7, 34, 35], h63⟩⟩)
  replace hF := cond_t hc64 hF
  refine wp_skip ?_
  refine t_norm ?_
  refine wp_seq ?_
  refine wp_block ?_
  refine wp_seq ?_
  refine c_region ?_
  refine l_val E ok (y_move rfl) rfl rfl fun a E => ?_
  obtain ⟨x65, e66, hF⟩ := bnd hF
  obtain ⟨b67, o68, hp69, yy70⟩ := orowAt sl_56 h40 e66 (P := Try.prog) (X := .tmp 40) (I := .tmp 42) (kd := .i64) (ev_of E rfl) (ev_of E rfl)
  refine l_val E ok (yy70 _ _) rfl rfl fun a E => ?_
  obtain ⟨es71, hl72, rr73, hh74⟩ := orowGet h40 e66 hp69 (by decide)
  obtain ⟨rfl, r75⟩ := rr73
  refine l_val E ok (y_load one_3 rfl (hh74 _ _ _ 1 rfl)) rfl rfl fun a E => ?_
  refine l_val E ok (y_assign rfl) rfl rfl fun a E => ?_
  refine l_val E ok (y_assign rfl) rfl rfl fun a E => ?_
  refine wpList_nil ?_
  refine t_norm ?_
  refine wp_seq ?_
  refine c_region ?_
  refine l_val E ok (y_fieldAddr fo_29_1 rfl) rfl rfl fun a E => ?_
  refine l_val E ok (y_load one_22 rfl (Holds.own 2 rfl rfl)) rfl rfl fun a E => ?_
  refine l_val E ok (y_move rfl) rfl rfl fun a E => ?_
  obtain ⟨x76, e77, hF⟩ := bnd hF
  obtain ⟨b78, o79, es80, hl81, rr82, at83, yy84⟩ := idxAt sl_22 h3 e77 (P := Try.prog) (X := .tmp 48) (I := .tmp 49) (kd := .i64) (ev_of E rfl) (ev_of E rfl)
  obtain ⟨c85, rfl, h86⟩ := pL_cell rr82
  refine l_val E ok (yy84 _ _) rfl rfl fun a E => ?_
  refine l_val E ok (y_load one_56 rfl (Holds.ro at83)) rfl rfl fun a E => ?_
  refine l_val E ok (y_lenL sl_56 h86 rfl) rfl rfl fun a E => ?_
  refine l_val E ok (y_move rfl) rfl rfl fun a E => ?_
  refine wpList_nil ?_
  refine t_norm ?_
  refine wp_block ?_
  obtain ⟨o92, hL, hF⟩ := bnd hF
  refine c_loop _ (fun (s : Int × (List (Int))) a w => ∃ c94 M95, Ok u m0 (M95 :: M39 :: [(b6, Obj.cells [(Value.int .i64 d_0.Start), c2, c4].toArray 29 (0, 0))] :: S) w ∧ Env 85 a [(2, (Value.pointer (some ⟨b6, 0, none⟩))), (7, c94), (9, (Value.int .i64 x65)), (34, (Value.int .i64 n_1)), (35, (Value.int .i64 x_37)), (40, c38), (41, (Value.int .i64 (words_36.length : Int))), (42, (Value.int .i64 x_58)), (51, c85), (52, (Value.int .i64 (x76.length : Int))), (53, (Value.int .i64 s.1))] ∧ InR .i64 s.1 ∧ ORow 3 1 (pI .i64) m0 c94 s.2 M95) (fun (b : ((List (Int)))) e a w => e = (.exit 5) ∧ ∃ c138 M139, Ok u m0 (M139 :: M39 :: [(b6, Obj.cells [(Value.int .i64 d_0.Start), c2, c4].toArray 29 (0, 0))] :: S) w ∧ Env 85 a [(2, (Value.pointer (some ⟨b6, 0, none⟩))), (7, c138), (34, (Value.int .i64 n_1)), (35, (Value.int .i64 x_37)), (40, c38), (41, (Value.int .i64 (words_36.length : Int))), (42, (Value.int .i64 x_58))] ∧ ORow 3 1 (pI .i64) m0 c138 b M139) ?_ ?_ N _ a w hL ⟨c61, M62, ok, E.keep [2, 7, 9, 34, 35, 40, 41, 42, 51, 52, 53], (show InR .i64 (0) by decide), h63⟩
  rotate_left
  · intro e a w _ hO
    obtain ⟨rfl, c135, M136, ok, E, h137⟩ := hO
    refine b_hit ?_
    refine b_norm ?_
    refine t_norm ?_
    refine c_region ?_
    refine l_val E ok (y_add rfl rfl (InR.inc r60 (ORow.InR h40) hc64)) rfl rfl fun a E => ?_
    refine l_val E ok (y_move rfl) rfl rfl fun a E => ?_
    refine wpList_nil ?_
    obtain rfl := Option.some.inj hF
    exact step_n ⟨c135, M136, ok, E.keep [2, 7, 34, 35, 40, 41, 42], (InR.inc r60 (ORow.InR h40) hc64), h137⟩
  rintro ⟨x_97, next_98⟩ a w r ⟨c100, M101, ok, E, r99, h102⟩ hF
  replace hF : automaton_Count_b3 N x65 x76 x_97 next_98 = some r := hF
  unfold automaton_Count_b3 at hF
  refine wp_seq ?_
  refine c_region ?_
  refine l_val E ok (y_lss rfl rfl) rfl rfl fun a E => ?_
  refine wpList_nil ?_
  refine t_norm ?_
  refine wp_seq ?_
  refine c_if E rfl (fun hc103 => ?_) (fun hc103 => ?_)
  rotate_left
  · replace hF := cond_f hc103 hF
    refine wp_exit ?_
    refine t_exit ?_
    obtain rfl := Option.some.inj hF
    exact step_o (by nofun) (⟨rfl, ⟨c100, M101, ok, E.keep [2, 7, 34, 35, 40, 41, 42], h102⟩⟩)
  replace hF := cond_t hc103 hF
  refine wp_skip ?_
  refine t_norm ?_
  refine wp_seq ?_
  refine wp_block ?_
  refine wp_seq ?_
  refine c_region ?_
  obtain ⟨x104, e105, hF⟩ := bnd hF
  obtain ⟨b106, o107, es108, hl109, rr110, at111, yy112⟩ := idxAt sl_56 h86 e105 (P := Try.prog) (X := .tmp 51) (I := .tmp 53) (kd := .i64) (ev_of E rfl) (ev_of E rfl)
  obtain ⟨rfl, r113⟩ := rr110
  refine l_val E ok (yy112 _ _) rfl rfl fun a E => ?_
  refine l_val E ok (y_load one_3 rfl (Holds.ro at111)) rfl rfl fun a E => ?_
  refine l_val E ok (y_assign rfl) rfl rfl fun a E => ?_
  refine wpList_nil ?_
  refine t_norm ?_
  refine c_region ?_
  refine l_val E ok (y_move rfl) rfl rfl fun a E => ?_
  refine l_val E ok (y_move rfl) rfl rfl fun a E => ?_
  obtain ⟨x114, e115, hF⟩ := bnd hF
  obtain ⟨b116, o117, hp118, yy119⟩ := orowAt sl_56 h102 e115 (P := Try.prog) (X := .tmp 57) (I := .tmp 58) (kd := .i64) (ev_of E rfl) (ev_of E rfl)
  refine l_val E ok (yy119 _ _) rfl rfl fun a E => ?_
  obtain ⟨es120, hl121, rr122, hh123⟩ := orowGet h102 e115 hp118 (by decide)
  obtain ⟨rfl, r124⟩ := rr122
  refine l_val E ok (y_load one_3 rfl (hh123 _ _ _ 0 rfl)) rfl rfl fun a E => ?_
  refine l_val E ok (y_move rfl) rfl rfl fun a E => ?_
  refine l_val E ok (y_addw rfl rfl) rfl rfl fun a E => ?_
  obtain ⟨x125, e126, hF⟩ := bnd hF
  obtain ⟨b127, o128, hp129, yy130⟩ := orowAt sl_56 h102 e126 (P := Try.prog) (X := .tmp 57) (I := .tmp 58) (kd := .i64) (ev_of E rfl) (ev_of E rfl)
  refine l_val E ok (yy130 _ _) rfl rfl fun a E => ?_
  obtain ⟨l131, e132, hF⟩ := bnd hF
  refine l_storeRow (R := (pI .i64)) E ok 0 rfl h102 e126 hp129 rfl rfl inf_3 rfl rfl rfl ⟨rfl, trivial⟩ (pI_mk (InR.wrap _ _)) e132 rfl fun M133 w ok h134 => ?_
  refine wpList_nil ?_
  refine b_norm ?_
  refine t_norm ?_
  refine c_region ?_
  refine l_val E ok (y_add rfl rfl (InR.inc r99 (pL_InR h86) hc103)) rfl rfl fun a E => ?_
  refine l_val E ok (y_move rfl) rfl rfl fun a E => ?_
  refine wpList_nil ?_
  obtain rfl := Option.some.inj hF
  exact step_n ⟨c100, M133, ok, E.keep [2, 7, 9, 34, 35, 40, 41, 42, 51, 52, 53], (InR.inc r99 (pL_InR h86) hc103), h134⟩

def automaton_symbol_R (u : World) (m0 : Mem) (S : Segs) (r : Int × Bool) (a : Act) (w : World) : Prop :=
  Ok u m0 S w ∧ a.defers = [] ∧ RVs Try.prog a w [.t 2 (.int .i64 r.1), .t 3 (.bool r.2)] ∧ InR .i64 r.1
set_option maxHeartbeats 4000000 in
set_option maxRecDepth 100000 in
theorem automaton_symbol_w {u : World} {m0 : Mem} {S : Segs} {w : World} (N : Nat) (c_0 : Int) (rc_0 : InR .u8 c_0) {r : Int × Bool} (hF : automaton_symbol N c_0 = some r) (ok : Ok u m0 S w) :
    Calls Try.prog 37 [Value.int .u8 c_0].toArray w fun e w' => (e = .returned (.tuple [(.int .i64 r.1), (.bool r.2)].toArray) ∧ Ok u m0 S w') ∧ InR .i64 r.1 := by
  have le_m0 := Mem.le.refl m0
  unfold automaton_symbol at hF
  have fin : ∀ a w, automaton_symbol_R u m0 S r a w → bodyPost Try.prog Try.f37 (fun e w' => (e = .returned (.tuple [(.int .i64 r.1), (.bool r.2)].toArray) ∧ Ok u m0 S w') ∧ InR .i64 r.1) .ret a w := by
    intro a w h
    obtain ⟨ok, hd, hrv, h0⟩ := h
    exact c_ret2 [.t 2 (.int .i64 r.1), .t 3 (.bool r.2)] hd rfl hrv ⟨⟨rfl, ok⟩, h0⟩
  refine enter Try.func37 rfl rfl rfl fun a E => ?_
  refine wp_seq ?_
  refine c_region ?_
  refine l_val E ok (y_assign rfl) rfl rfl fun a E => ?_
  refine l_val E ok (y_assign rfl) rfl rfl fun a E => ?_
  refine wpList_nil ?_
  refine t_norm ?_
  refine wp_seq ?_
  refine wp_seq ?_
  refine c_region ?_
  refine l_val E ok (y_move rfl) rfl rfl fun a E => ?_
  refine l_val E ok (y_eql rfl rfl) rfl rfl fun a E => ?_
  refine wpList_nil ?_
  refine t_norm ?_
  refine c_if E rfl (fun hc1 => ?_) (fun hc1 => ?_)
  · replace hF := cond_t hc1 hF
    refine wp_seq ?_
    refine c_region ?_
    refine l_val E ok (y_assign rfl) rfl rfl fun a E => ?_
    refine l_val E ok (y_assign rfl) rfl rfl fun a E => ?_
    refine wpList_nil ?_
    refine t_norm ?_
    refine wp_ret ?_
    refine t_ret ?_
    have hret : automaton_symbol_R u m0 S (10, true) a w := ⟨ok, E.d, ⟨rv_t E rfl, rv_t E rfl, trivial⟩, (show InR .i64 (10) by decide)⟩
    obtain rfl := Option.some.inj hF
    exact fin _ _ hret
  replace hF := cond_f hc1 hF
  refine wp_skip ?_
  refine t_norm ?_
  refine wp_seq ?_
  refine c_region ?_
  refine l_val E ok (y_move rfl) rfl rfl fun a E => ?_
  refine l_val E ok (y_convw Try.underlying5 Try.underlying3 rfl rc_0 (by decide)) rfl rfl fun a E => ?_
  refine l_val E ok (y_subw rfl rfl) rfl rfl fun a E => ?_
  refine l_val E ok (y_move rfl) rfl rfl fun a E => ?_
  refine l_val E ok (y_geq rfl rfl) rfl rfl fun a E => ?_
  refine l_val E ok (y_move rfl) rfl rfl fun a E => ?_
  refine bsplit (decide (c_0 ≥ 48)) (fun hc2 => ?_) (fun hc2 => ?_)
  · replace hF := cond_t hc2 hF
    replace E := E.upd 11 hc2 rfl
    refine l_val E ok (y_move rfl) rfl rfl fun a E => ?_
    refine l_val E ok (y_leq rfl rfl) rfl rfl fun a E => ?_
    refine l_val E ok (y_pickT rfl rfl) rfl rfl fun a E => ?_
    refine l_val E ok (y_assign rfl) rfl rfl fun a E => ?_
    refine l_val E ok (y_assign rfl) rfl rfl fun a E => ?_
    refine wpList_nil ?_
    refine t_norm ?_
    refine wp_ret ?_
    have hret : automaton_symbol_R u m0 S ((IntKind.wrap .i64 (c_0 - 48)), (decide (c_0 ≤ 57))) a w := ⟨ok, E.d, ⟨rv_t E rfl, rv_t E rfl, trivial⟩, (InR.wrap _ _)⟩
    obtain rfl := Option.some.inj hF
    exact fin _ _ hret
  replace hF := cond_f hc2 hF
  replace E := E.upd 11 hc2 rfl
  refine l_skip E rfl rfl fun a E => ?_
  refine l_skip E rfl rfl fun a E => ?_
  refine l_val E ok (y_pickF rfl rfl) rfl rfl fun a E => ?_
  refine l_val E ok (y_assign rfl) rfl rfl fun a E => ?_
  refine l_val E ok (y_assign rfl) rfl rfl fun a E => ?_
  refine wpList_nil ?_
  refine t_norm ?_
  refine wp_ret ?_
  have hret : automaton_symbol_R u m0 S ((IntKind.wrap .i64 (c_0 - 48)), false) a w := ⟨ok, E.d, ⟨rv_t E rfl, rv_t E rfl, trivial⟩, (InR.wrap _ _)⟩
  obtain rfl := Option.some.inj hF
  exact fin _ _ hret

def automaton_Run_R (u : World) (m0 : Mem) (S : Segs) (r : Bool) (a : Act) (w : World) : Prop :=
  Ok u m0 S w ∧ a.defers = [] ∧ RVs Try.prog a w [.t 4 (.bool r)]
set_option maxHeartbeats 4000000 in
set_option maxRecDepth 100000 in
theorem automaton_Run_w {u : World} {m0 : Mem} {S : Segs} {w : World} (N : Nat) (vd_0 : List Value) (d_0 : DFA) (hd_0 : pDFA m0 vd_0 d_0) (word_1 : List UInt8) (lword_1 : word_1.length ≤ LIMS) {r : Bool} (hF : automaton_Run N d_0 word_1 = some r) (ok : Ok u m0 S w) :
    Calls Try.prog 16 [.agg vd_0.toArray, Value.string (bs word_1)].toArray w fun e w' => (e = .returned (.bool r) ∧ Ok u m0 S w') := by
  obtain ⟨c2, c4, rfl, r1, h3, h5⟩ := hd_0
  have le_m0 := Mem.le.refl m0
  unfold automaton_Run at hF
  have fin : ∀ a w, automaton_Run_R u m0 S r a w → bodyPost Try.prog Try.f16 (fun e w' => (e = .returned (.bool r) ∧ Ok u m0 S w')) .ret a w := by
    intro a w h
    obtain ⟨ok, hd, hrv⟩ := h
    exact c_ret2 [.t 4 (.bool r)] hd rfl hrv ⟨rfl, ok⟩
  refine enter Try.func16 rfl rfl rfl fun a E => ?_
  refine wp_seq ?_
  refine c_region ?_
  refine l_box E ok rfl rfl rfl fun b6 a w E ok => ?_
  refine l_val E ok (y_assign rfl) rfl rfl fun a E => ?_
  refine wpList_nil ?_
  refine t_norm ?_
  refine wp_seq ?_
  refine wp_seq ?_
  refine c_region ?_
  refine l_val E ok (y_loadAgg (cs := [(Value.int .i64 d_0.Start), c2, c4]) agg_29 rfl rfl (Holds.own 0 rfl rfl)) rfl rfl fun a E => ?_
  obtain ⟨r7, e8, hF⟩ := bnd hF
  refine l_call E go_13 rfl (automaton_Valid_w N _ d_0 ⟨_, _, rfl, r1, h3, h5⟩ e8 ok) rfl rfl ?_
  rintro _ w ⟨rfl, ok⟩
  refine ⟨_, rfl, fun a E => ?_⟩
  refine l_val E ok (y_not rfl) rfl rfl fun a E => ?_
  refine wpList_nil ?_
  refine t_norm ?_
  refine c_if E rfl (fun hc9 => ?_) (fun hc9 => ?_)
  · replace hF := cond_t hc9 hF
    refine wp_seq ?_
    refine c_region ?_
    refine l_val E ok (y_assign rfl) rfl rfl fun a E => ?_
    refine wpList_nil ?_
    refine t_norm ?_
    refine wp_ret ?_
    refine t_ret ?_
    have hret : automaton_Run_R u m0 S false a w := ⟨ok.drop, E.d, ⟨rv_t E rfl, trivial⟩⟩
    obtain rfl := Option.some.inj hF
    exact fin _ _ hret
  replace hF := cond_f hc9 hF
  refine wp_skip ?_
  refine t_norm ?_
  refine wp_seq ?_
  refine c_region ?_
  refine l_val E ok (y_fieldAddr fo_29_0 rfl) rfl rfl fun a E => ?_
  refine l_val E ok (y_load one_3 rfl (Holds.own 0 rfl rfl)) rfl rfl fun a E => ?_
  refine l_val E ok (y_assign rfl) rfl rfl fun a E => ?_
  refine wpList_nil ?_
  refine t_norm ?_
  refine wp_seq ?_
  refine wp_seq ?_
  refine c_region ?_
  refine l_val E ok (y_move rfl) rfl rfl fun a E => ?_
  refine l_val E ok (y_slen Try.underlying9 rfl) rfl rfl fun a E => ?_
  refine l_val E ok (y_move rfl) rfl rfl fun a E => ?_
  refine wpList_nil ?_
  refine t_norm ?_
  refine wp_block ?_
  obtain ⟨o12, hL, hF⟩ := bnd hF
  refine c_loop _ (fun (s : Int × Int) a w => Ok u m0 ([(b6, Obj.cells [(Value.int .i64 d_0.Start), c2, c4].toArray 29 (0, 0))] :: S) w ∧ Env 42 a [(1, (Value.string (bs word_1))), (2, (Value.pointer (some ⟨b6, 0, none⟩))), (5, (Value.int .i64 s.1)), (15, (Value.int .i64 (word_1.length : Int))), (16, (Value.int .i64 s.2))] ∧ InR .i64 s.1 ∧ InR .i64 s.2) (fun (b : (Int ⊕ Bool)) e a w => (Sum.elim (fun b57 => e = (.exit 0) ∧ Ok u m0 ([(b6, Obj.cells [(Value.int .i64 d_0.Start), c2, c4].toArray 29 (0, 0))] :: S) w ∧ Env 42 a [(2, (Value.pointer (some ⟨b6, 0, none⟩))), (5, (Value.int .i64 b57))] ∧ InR .i64 b57) (fun b59 => e = .ret ∧ automaton_Run_R u m0 S b59 a w)) b) ?_ ?_ N _ a w hL ⟨ok, E.keep [1, 2, 5, 15, 16], r1, (show InR .i64 (0) by decide)⟩
  rotate_left
  · intro e a w _ hO
    rcases o12 with o12 | o12
    rotate_left
    · replace hF := elim_r hF
      obtain ⟨rfl, hret⟩ := hO
      refine b_ret ?_
      refine t_ret ?_
      obtain rfl := Option.some.inj hF
      exact fin _ _ hret
    replace hF := elim_l hF
    obtain ⟨rfl, ok, E, r47⟩ := hO
    refine b_hit ?_
    refine t_norm ?_
    refine wp_seq ?_
    refine c_region ?_
    refine l_val E ok (y_fieldAddr fo_29_2 rfl) rfl rfl fun a E => ?_
    refine l_val E ok (y_load one_23 rfl (Holds.own 0 rfl rfl)) rfl rfl fun a E => ?_
    refine l_val E ok (y_move rfl) rfl rfl fun a E => ?_
    obtain ⟨x48, e49, hF⟩ := bnd hF
    obtain ⟨b50, o51, es52, hl53, rr54, at55, yy56⟩ := idxAt sl_23 h5 e49 (P := Try.prog) (X := .tmp 38) (I := .tmp 39) (kd := .i64) (ev_of E rfl) (ev_of E rfl)
    obtain rfl := rr54
    refine l_val E ok (yy56 _ _) rfl rfl fun a E => ?_
    refine l_val E ok (y_load one_4 rfl (Holds.ro at55)) rfl rfl fun a E => ?_
    refine l_val E ok (y_assign rfl) rfl rfl fun a E => ?_
    refine wpList_nil ?_
    refine t_norm ?_
    refine wp_ret ?_
    have hret : automaton_Run_R u m0 S x48 a w := ⟨ok.drop, E.d, ⟨rv_t E rfl, trivial⟩⟩
    obtain rfl := Option.some.inj hF
    exact fin _ _ hret
  rintro ⟨state_15, x_16⟩ a w r ⟨ok, E, r17, r18⟩ hF
  replace hF : automaton_Run_b1 N d_0 word_1 state_15 x_16 = some r := hF
  unfold automaton_Run_b1 at hF
  refine wp_seq ?_
  refine c_region ?_
  refine l_val E ok (y_lss rfl rfl) rfl rfl fun a E => ?_
  refine wpList_nil ?_
  refine t_norm ?_
  refine wp_seq ?_
  refine c_if E rfl (fun hc19 => ?_) (fun hc19 => ?_)
  rotate_left
  · replace hF := cond_f hc19 hF
    refine wp_exit ?_
    refine t_exit ?_
    obtain rfl := Option.some.inj hF
    exact step_o (by nofun) (sl ⟨rfl, ⟨ok, E.keep [2, 5], r17⟩⟩)
  replace hF := cond_t hc19 hF
  refine wp_skip ?_
  refine t_norm ?_
  refine wp_seq ?_
  refine wp_block ?_
  refine wp_seq ?_
  refine c_region ?_
  refine l_val E ok (y_move rfl) rfl rfl fun a E => ?_
  refine l_val E ok (y_assign rfl) rfl rfl fun a E => ?_
  refine wpList_nil ?_
  refine t_norm ?_
  refine wp_seq ?_
  refine c_region ?_
  refine l_val E ok (y_move rfl) rfl rfl fun a E => ?_
  refine l_val E ok (y_move rfl) rfl rfl fun a E => ?_
  obtain ⟨c20, e21, hF⟩ := bnd hF
  refine l_val E ok (y_index Try.underlying9 rfl rfl e21) rfl rfl fun a E => ?_
  obtain ⟨r22, e23, hF⟩ := bnd hF
  refine l_call E go_37 rfl (automaton_symbol_w N (c20.toNat : Int) (InR.byte c20) e23 ok) rfl rfl ?_
  rintro _ w ⟨⟨rfl, ok⟩, r24⟩
  refine ⟨_, rfl, fun a E => ?_⟩
  refine l_val E ok (y_move rfl) rfl rfl fun a E => ?_
  refine l_val E ok (y_extract rfl rfl) rfl rfl fun a E => ?_
  refine l_val E ok (y_extract rfl rfl) rfl rfl fun a E => ?_
  refine l_val E ok (y_assign rfl) rfl rfl fun a E => ?_
  refine l_val E ok (y_assign rfl) rfl rfl fun a E => ?_
  refine wpList_nil ?_
  refine t_norm ?_
  refine wp_seq ?_
  refine wp_seq ?_
  refine c_region ?_
  refine l_val E ok (y_move rfl) rfl rfl fun a E => ?_
  refine l_val E ok (y_not rfl) rfl rfl fun a E => ?_
  refine wpList_nil ?_
  refine t_norm ?_
  refine c_if E rfl (fun hc25 => ?_) (fun hc25 => ?_)
  · replace hF := cond_t hc25 hF
    refine wp_seq ?_
    refine c_region ?_
    refine l_val E ok (y_assign rfl) rfl rfl fun a E => ?_
    refine wpList_nil ?_
    refine t_norm ?_
    refine wp_ret ?_
    refine t_ret ?_
    refine b_ret ?_
    refine t_ret ?_
    have hret : automaton_Run_R u m0 S false a w := ⟨ok.drop, E.d, ⟨rv_t E rfl, trivial⟩⟩
    obtain rfl := Option.some.inj hF
    exact step_o (by nofun) (sr ⟨rfl, hret⟩)
  replace hF := cond_f hc25 hF
  refine wp_skip ?_
  refine t_norm ?_
  refine c_region ?_
  refine l_val E ok (y_fieldAddr fo_29_1 rfl) rfl rfl fun a E => ?_
  refine l_val E ok (y_load one_22 rfl (Holds.own 0 rfl rfl)) rfl rfl fun a E => ?_
  refine l_val E ok (y_move rfl) rfl rfl fun a E => ?_
  obtain ⟨x26, e27, hF⟩ := bnd hF
  obtain ⟨b28, o29, es30, hl31, rr32, at33, yy34⟩ := idxAt sl_22 h3 e27 (P := Try.prog) (X := .tmp 29) (I := .tmp 30) (kd := .i64) (ev_of E rfl) (ev_of E rfl)
  obtain ⟨c35, rfl, h36⟩ := pL_cell rr32
  refine l_val E ok (yy34 _ _) rfl rfl fun a E => ?_
  refine l_val E ok (y_load one_56 rfl (Holds.ro at33)) rfl rfl fun a E => ?_
  refine l_val E ok (y_move rfl) rfl rfl fun a E => ?_
  obtain ⟨x37, e38, hF⟩ := bnd hF
  obtain ⟨b39, o40, es41, hl42, rr43, at44, yy45⟩ := idxAt sl_56 h36 e38 (P := Try.prog) (X := .tmp 32) (I := .tmp 33) (kd := .i64) (ev_of E rfl) (ev_of E rfl)
  obtain ⟨rfl, r46⟩ := rr43
  refine l_val E ok (yy45 _ _) rfl rfl fun a E => ?_
  refine l_val E ok (y_load one_3 rfl (Holds.ro at44)) rfl rfl fun a E => ?_
  refine l_val E ok (y_assign rfl) rfl rfl fun a E => ?_
  refine wpList_nil ?_
  refine b_norm ?_
  refine t_norm ?_
  refine c_region ?_
  refine l_val E ok (y_add rfl rfl (InR.inc r18 (InR.len lword_1) hc19)) rfl rfl fun a E => ?_
  refine l_val E ok (y_move rfl) rfl rfl fun a E => ?_
  refine wpList_nil ?_
  obtain rfl := Option.some.inj hF
  exact step_n ⟨ok, E.keep [1, 2, 5, 15, 16], r46, (InR.inc r18 (InR.len lword_1) hc19)⟩

def calquelaw09_awake_R (u : World) (m0 : Mem) (S : Segs) (r : Bool) (a : Act) (w : World) : Prop :=
  Ok u m0 S w ∧ a.defers = [] ∧ RVs Try.prog a w [.t 0 (.bool r)]
set_option maxHeartbeats 4000000 in
set_option maxRecDepth 100000 in
theorem calquelaw09_awake_w {u : World} {m0 : Mem} {S : Segs} {w : World} (N : Nat) {r : Bool} (hF : calquelaw09_awake N  = some r) (ok : Ok u m0 S w) :
    Calls Try.prog 11 [].toArray w fun e w' => (e = .returned (.bool r) ∧ Ok u m0 S w') := by
  have le_m0 := Mem.le.refl m0
  unfold calquelaw09_awake at hF
  have fin : ∀ a w, calquelaw09_awake_R u m0 S r a w → bodyPost Try.prog Try.f11 (fun e w' => (e = .returned (.bool r) ∧ Ok u m0 S w')) .ret a w := by
    intro a w h
    obtain ⟨ok, hd, hrv⟩ := h
    exact c_ret2 [.t 0 (.bool r)] hd rfl hrv ⟨rfl, ok⟩
  refine enter Try.func11 rfl rfl rfl fun a E => ?_
  refine wp_seq ?_
  refine c_region ?_
  refine l_val E ok (y_assign rfl) rfl rfl fun a E => ?_
  refine wpList_nil ?_
  refine t_norm ?_
  refine wp_seq ?_
  refine c_region ?_
  obtain ⟨r1, e2, hF⟩ := bnd hF
  refine l_call E go_36 rfl (calquelaw09_odd_w N  e2 ok) rfl rfl ?_
  rintro _ w ⟨m3, vs4, rfl, hle, ok, h5⟩
  have le_m0 := le_m0.trans hle
  obtain ⟨c7, c9, rfl, r6, h8, h10⟩ := h5
  refine ⟨_, rfl, fun a E => ?_⟩
  obtain ⟨r11, e12, hF⟩ := bnd hF
  refine l_call E go_18 rfl (automaton_Shortest_w N _ r1 ⟨_, _, rfl, r6, h8, h10⟩ e12 ok) rfl rfl ?_
  rintro _ w ⟨⟨rfl, ok⟩, l13, r14⟩
  refine ⟨_, rfl, fun a E => ?_⟩
  refine l_val E ok (y_move rfl) rfl rfl fun a E => ?_
  refine l_val E ok (y_extract rfl rfl) rfl rfl fun a E => ?_
  refine l_val E ok (y_extract rfl rfl) rfl rfl fun a E => ?_
  refine l_val E ok (y_extract rfl rfl) rfl rfl fun a E => ?_
  refine l_val E ok (y_assign rfl) rfl rfl fun a E => ?_
  refine l_val E ok (y_assign rfl) rfl rfl fun a E => ?_
  refine l_val E ok (y_assign rfl) rfl rfl fun a E => ?_
  refine wpList_nil ?_
  refine t_norm ?_
  refine wp_seq ?_
  refine c_region ?_
  obtain ⟨r15, e16, hF⟩ := bnd hF
  refine l_call E go_36 rfl (calquelaw09_odd_w N  e16 ok) rfl rfl ?_
  rintro _ w ⟨m17, vs18, rfl, hle, ok, h19⟩
  have le_m0 := le_m0.trans hle
  have h8 := (mL (mL (mI .i64))).up hle h8
  have h10 := (mL mB).up hle h10
  obtain ⟨c21, c23, rfl, r20, h22, h24⟩ := h19
  refine ⟨_, rfl, fun a E => ?_⟩
  obtain ⟨r25, e26, hF⟩ := bnd hF
  refine l_call E go_25 rfl (automaton_Count_w N _ r15 ⟨_, _, rfl, r20, h22, h24⟩ 2 (show InR .i64 (2) by decide) e26 ok) rfl rfl ?_
  rintro _ w ⟨⟨rfl, ok⟩, r27, r28⟩
  refine ⟨_, rfl, fun a E => ?_⟩
  refine l_val E ok (y_move rfl) rfl rfl fun a E => ?_
  refine l_val E ok (y_extract rfl rfl) rfl rfl fun a E => ?_
  refine l_val E ok (y_extract rfl rfl) rfl rfl fun a E => ?_
  refine l_val E ok (y_assign rfl) rfl rfl fun a E => ?_
  refine l_val E ok (y_assign rfl) rfl rfl fun a E => ?_
  refine wpList_nil ?_
  refine t_norm ?_
  refine wp_seq ?_
  refine c_region ?_
  refine l_val E ok (y_move rfl) rfl rfl fun a E => ?_
  refine l_val E ok (y_eql rfl rfl) rfl rfl fun a E => ?_
  refine l_val E ok (y_move rfl) rfl rfl fun a E => ?_
  refine bsplit (r11.2.2 == 0) (fun hc29 => ?_) (fun hc29 => ?_)
  rotate_left
  · replace hF := cond_f hc29 hF
    replace E := E.upd 19 hc29 rfl
    refine l_skip E rfl rfl fun a E => ?_
    refine l_skip E rfl rfl fun a E => ?_
    refine l_val E ok (y_pickF rfl rfl) rfl rfl fun a E => ?_
    refine l_val E ok (y_move rfl) rfl rfl fun a E => ?_
    refine l_skip E rfl rfl fun a E => ?_
    refine l_val E ok (y_pickF rfl rfl) rfl rfl fun a E => ?_
    refine l_val E ok (y_move rfl) rfl rfl fun a E => ?_
    refine l_skip E rfl rfl fun a E => ?_
    refine l_skip E rfl rfl fun a E => ?_
    refine l_val E ok (y_pickF rfl rfl) rfl rfl fun a E => ?_
    refine l_val E ok (y_move rfl) rfl rfl fun a E => ?_
    refine l_skip E rfl rfl fun a E => ?_
    refine l_skip E rfl rfl fun a E => ?_
    refine l_val E ok (y_pickF rfl rfl) rfl rfl fun a E => ?_
    refine l_val E ok (y_move rfl) rfl rfl fun a E => ?_
    refine l_skip E rfl rfl fun a E => ?_
    refine l_skip E rfl rfl fun a E => ?_
    refine l_val E ok (y_pickF rfl rfl) rfl rfl fun a E => ?_
    refine l_val E ok (y_assign rfl) rfl rfl fun a E => ?_
    refine wpList_nil ?_
    refine t_norm ?_
    refine wp_ret ?_
    have hret : calquelaw09_awake_R u m0 S false a w := ⟨(ok).down le_m0, E.d, ⟨rv_t E rfl, trivial⟩⟩
    obtain rfl := Option.some.inj hF
    exact fin _ _ hret
  replace hF := cond_t hc29 hF
  replace E := E.upd 19 hc29 rfl
  refine l_val E ok (y_move rfl) rfl rfl fun a E => ?_
  refine l_val E ok (y_eql rfl rfl) rfl rfl fun a E => ?_
  refine l_val E ok (y_pickT rfl rfl) rfl rfl fun a E => ?_
  refine l_val E ok (y_move rfl) rfl rfl fun a E => ?_
  refine bsplit (r25.2 == 0) (fun hc30 => ?_) (fun hc30 => ?_)
  rotate_left
  · replace hF := cond_f hc30 hF
    replace E := E.upd 23 hc30 rfl
    refine l_skip E rfl rfl fun a E => ?_
    refine l_val E ok (y_pickF rfl rfl) rfl rfl fun a E => ?_
    refine l_val E ok (y_move rfl) rfl rfl fun a E => ?_
    refine l_skip E rfl rfl fun a E => ?_
    refine l_skip E rfl rfl fun a E => ?_
    refine l_val E ok (y_pickF rfl rfl) rfl rfl fun a E => ?_
    refine l_val E ok (y_move rfl) rfl rfl fun a E => ?_
    refine l_skip E rfl rfl fun a E => ?_
    refine l_skip E rfl rfl fun a E => ?_
    refine l_val E ok (y_pickF rfl rfl) rfl rfl fun a E => ?_
    refine l_val E ok (y_move rfl) rfl rfl fun a E => ?_
    refine l_skip E rfl rfl fun a E => ?_
    refine l_skip E rfl rfl fun a E => ?_
    refine l_val E ok (y_pickF rfl rfl) rfl rfl fun a E => ?_
    refine l_val E ok (y_assign rfl) rfl rfl fun a E => ?_
    refine wpList_nil ?_
    refine t_norm ?_
    refine wp_ret ?_
    have hret : calquelaw09_awake_R u m0 S false a w := ⟨(ok).down le_m0, E.d, ⟨rv_t E rfl, trivial⟩⟩
    obtain rfl := Option.some.inj hF
    exact fin _ _ hret
  replace hF := cond_t hc30 hF
  replace E := E.upd 23 hc30 rfl
  refine l_val E ok (y_move rfl) rfl rfl fun a E => ?_
  refine l_val E ok (y_pickT rfl rfl) rfl rfl fun a E => ?_
  refine l_val E ok (y_move rfl) rfl rfl fun a E => ?_
  refine bsplit r11.2.1 (fun hc31 => ?_) (fun hc31 => ?_)
  rotate_left
  · replace hF := cond_f hc31 hF
    replace E := E.upd 26 hc31 rfl
    refine l_skip E rfl rfl fun a E => ?_
    refine l_skip E rfl rfl fun a E => ?_
    refine l_val E ok (y_pickF rfl rfl) rfl rfl fun a E => ?_
    refine l_val E ok (y_move rfl) rfl rfl fun a E => ?_
    refine l_skip E rfl rfl fun a E => ?_
    refine l_skip E rfl rfl fun a E => ?_
    refine l_val E ok (y_pickF rfl rfl) rfl rfl fun a E => ?_
    refine l_val E ok (y_move rfl) rfl rfl fun a E => ?_
    refine l_skip E rfl rfl fun a E => ?_
    refine l_skip E rfl rfl fun a E => ?_
    refine l_val E ok (y_pickF rfl rfl) rfl rfl fun a E => ?_
    refine l_val E ok (y_assign rfl) rfl rfl fun a E => ?_
    refine wpList_nil ?_
    refine t_norm ?_
    refine wp_ret ?_
    have hret : calquelaw09_awake_R u m0 S false a w := ⟨(ok).down le_m0, E.d, ⟨rv_t E rfl, trivial⟩⟩
    obtain rfl := Option.some.inj hF
    exact fin _ _ hret
  replace hF := cond_t hc31 hF
  replace E := E.upd 26 hc31 rfl
  refine l_val E ok (y_move rfl) rfl rfl fun a E => ?_
  refine l_val E ok (y_seql rfl rfl) rfl rfl fun a E => ?_
  refine l_val E ok (y_pickT rfl rfl) rfl rfl fun a E => ?_
  refine l_val E ok (y_move rfl) rfl rfl fun a E => ?_
  refine bsplit (r11.1 == ([49])) (fun hc32 => ?_) (fun hc32 => ?_)
  rotate_left
  · replace hF := cond_f hc32 hF
    replace E := E.upd 30 hc32 rfl
    refine l_skip E rfl rfl fun a E => ?_
    refine l_skip E rfl rfl fun a E => ?_
    refine l_val E ok (y_pickF rfl rfl) rfl rfl fun a E => ?_
    refine l_val E ok (y_move rfl) rfl rfl fun a E => ?_
    refine l_skip E rfl rfl fun a E => ?_
    refine l_skip E rfl rfl fun a E => ?_
    refine l_val E ok (y_pickF rfl rfl) rfl rfl fun a E => ?_
    refine l_val E ok (y_assign rfl) rfl rfl fun a E => ?_
    refine wpList_nil ?_
    refine t_norm ?_
    refine wp_ret ?_
    have hret : calquelaw09_awake_R u m0 S false a w := ⟨(ok).down le_m0, E.d, ⟨rv_t E rfl, trivial⟩⟩
    obtain rfl := Option.some.inj hF
    exact fin _ _ hret
  replace hF := cond_t hc32 hF
  replace E := E.upd 30 hc32 rfl
  refine l_val E ok (y_move rfl) rfl rfl fun a E => ?_
  refine l_val E ok (y_eql rfl rfl) rfl rfl fun a E => ?_
  refine l_val E ok (y_pickT rfl rfl) rfl rfl fun a E => ?_
  refine l_val E ok (y_move rfl) rfl rfl fun a E => ?_
  refine bsplit (r25.1 == 55) (fun hc33 => ?_) (fun hc33 => ?_)
  rotate_left
  · replace hF := cond_f hc33 hF
    replace E := E.upd 34 hc33 rfl
    refine l_skip E rfl rfl fun a E => ?_
    refine l_skip E rfl rfl fun a E => ?_
    refine l_val E ok (y_pickF rfl rfl) rfl rfl fun a E => ?_
    refine l_val E ok (y_assign rfl) rfl rfl fun a E => ?_
    refine wpList_nil ?_
    refine t_norm ?_
    refine wp_ret ?_
    have hret : calquelaw09_awake_R u m0 S false a w := ⟨(ok).down le_m0, E.d, ⟨rv_t E rfl, trivial⟩⟩
    obtain rfl := Option.some.inj hF
    exact fin _ _ hret
  replace hF := cond_t hc33 hF
  replace E := E.upd 34 hc33 rfl
  obtain ⟨r34, e35, hF⟩ := bnd hF
  refine l_call E go_36 rfl (calquelaw09_odd_w N  e35 ok) rfl rfl ?_
  rintro _ w ⟨m36, vs37, rfl, hle, ok, h38⟩
  have le_m0 := le_m0.trans hle
  have h8 := (mL (mL (mI .i64))).up hle h8
  have h10 := (mL mB).up hle h10
  have h22 := (mL (mL (mI .i64))).up hle h22
  have h24 := (mL mB).up hle h24
  obtain ⟨c40, c42, rfl, r39, h41, h43⟩ := h38
  refine ⟨_, rfl, fun a E => ?_⟩
  obtain ⟨r44, e45, hF⟩ := bnd hF
  refine l_call E go_16 rfl (automaton_Run_w N _ r34 ⟨_, _, rfl, r39, h41, h43⟩ ([50, 46, 55]) (by decide) e45 ok) rfl rfl ?_
  rintro _ w ⟨rfl, ok⟩
  refine ⟨_, rfl, fun a E => ?_⟩
  refine l_val E ok (y_pickT rfl rfl) rfl rfl fun a E => ?_
  refine l_val E ok (y_assign rfl) rfl rfl fun a E => ?_
  refine wpList_nil ?_
  refine t_norm ?_
  refine wp_ret ?_
  have hret : calquelaw09_awake_R u m0 S r44 a w := ⟨(ok).down le_m0, E.d, ⟨rv_t E rfl, trivial⟩⟩
  obtain rfl := Option.some.inj hF
  exact fin _ _ hret

def calqueref09_Few_R (u : World) (m0 : Mem) (S : Segs) (r : Bool) (a : Act) (w : World) : Prop :=
  Ok u m0 S w ∧ a.defers = [] ∧ RVs Try.prog a w [.t 4 (.bool r)]
set_option maxHeartbeats 4000000 in
set_option maxRecDepth 100000 in
theorem calqueref09_Few_w {u : World} {m0 : Mem} {S : Segs} {w : World} (N : Nat) (vd_0 : List Value) (d_0 : DFA) (hd_0 : pDFA m0 vd_0 d_0) (most_1 : Int) (rmost_1 : InR .i64 most_1) {r : Bool} (hF : calqueref09_Few N d_0 most_1 = some r) (ok : Ok u m0 S w) :
    Calls Try.prog 12 [.agg vd_0.toArray, Value.int .i64 most_1].toArray w fun e w' => (e = .returned (.bool r) ∧ Ok u m0 S w') := by
  obtain ⟨c2, c4, rfl, r1, h3, h5⟩ := hd_0
  have le_m0 := Mem.le.refl m0
  unfold calqueref09_Few at hF
  have fin : ∀ a w, calqueref09_Few_R u m0 S r a w → bodyPost Try.prog Try.f12 (fun e w' => (e = .returned (.bool r) ∧ Ok u m0 S w')) .ret a w := by
    intro a w h
    obtain ⟨ok, hd, hrv⟩ := h
    exact c_ret2 [.t 4 (.bool r)] hd rfl hrv ⟨rfl, ok⟩
  refine enter Try.func12 rfl rfl rfl fun a E => ?_
  refine wp_seq ?_
  refine c_region ?_
  refine l_box E ok rfl rfl rfl fun b6 a w E ok => ?_
  refine l_val E ok (y_assign rfl) rfl rfl fun a E => ?_
  refine wpList_nil ?_
  refine t_norm ?_
  refine wp_seq ?_
  refine wp_seq ?_
  refine c_region ?_
  refine l_val E ok (y_assign rfl) rfl rfl fun a E => ?_
  refine wpList_nil ?_
  refine t_norm ?_
  refine wp_block ?_
  obtain ⟨o8, hL, hF⟩ := bnd hF
  refine c_loop _ (fun (s : Int) a w => Ok u m0 ([(b6, Obj.cells [(Value.int .i64 d_0.Start), c2, c4].toArray 25 (0, 0))] :: S) w ∧ Env 33 a [(1, (Value.int .i64 most_1)), (2, (Value.pointer (some ⟨b6, 0, none⟩))), (5, (Value.int .i64 s))] ∧ InR .i64 s) (fun (b : (Unit ⊕ Bool)) e a w => (Sum.elim (fun b26 => e = (.exit 0) ∧ Ok u m0 ([(b6, Obj.cells [(Value.int .i64 d_0.Start), c2, c4].toArray 25 (0, 0))] :: S) w ∧ Env 33 a [(1, (Value.int .i64 most_1)), (2, (Value.pointer (some ⟨b6, 0, none⟩)))]) (fun b27 => e = .ret ∧ calqueref09_Few_R u m0 S b27 a w)) b) ?_ ?_ N _ a w hL ⟨ok, E.keep [1, 2, 5], (show InR .i64 (0) by decide)⟩
  rotate_left
  · intro e a w _ hO
    rcases o8 with o8 | o8
    rotate_left
    · replace hF := elim_r hF
      obtain ⟨rfl, hret⟩ := hO
      refine b_ret ?_
      refine t_ret ?_
      obtain rfl := Option.some.inj hF
      exact fin _ _ hret
    replace hF := elim_l hF
    obtain ⟨rfl, ok, E⟩ := hO
    refine b_hit ?_
    refine t_norm ?_
    refine wp_seq ?_
    refine c_region ?_
    refine l_val E ok (y_fieldAddr fo_25_1 rfl) rfl rfl fun a E => ?_
    refine l_val E ok (y_load one_22 rfl (Holds.own 0 rfl rfl)) rfl rfl fun a E => ?_
    refine l_val E ok (y_lenL sl_22 h3 rfl) rfl rfl fun a E => ?_
    refine l_val E ok (y_move rfl) rfl rfl fun a E => ?_
    refine l_val E ok (y_leq rfl rfl) rfl rfl fun a E => ?_
    refine l_val E ok (y_move rfl) rfl rfl fun a E => ?_
    refine bsplit (decide ((d_0.Next.length : Int) ≤ most_1)) (fun hc25 => ?_) (fun hc25 => ?_)
    · replace hF := cond_t hc25 hF
      replace E := E.upd 25 hc25 rfl
      refine l_val E ok (y_fieldAddr fo_25_2 rfl) rfl rfl fun a E => ?_
      refine l_val E ok (y_load one_23 rfl (Holds.own 0 rfl rfl)) rfl rfl fun a E => ?_
      refine l_val E ok (y_lenL sl_23 h5 rfl) rfl rfl fun a E => ?_
      refine l_val E ok (y_move rfl) rfl rfl fun a E => ?_
      refine l_val E ok (y_mulw rfl rfl) rfl rfl fun a E => ?_
      refine l_val E ok (y_leq rfl rfl) rfl rfl fun a E => ?_
      refine l_val E ok (y_pickT rfl rfl) rfl rfl fun a E => ?_
      refine l_val E ok (y_assign rfl) rfl rfl fun a E => ?_
      refine wpList_nil ?_
      refine t_norm ?_
      refine wp_ret ?_
      have hret : calqueref09_Few_R u m0 S (decide ((d_0.Accept.length : Int) ≤ (IntKind.wrap .i64 ((2 : Int) * most_1)))) a w := ⟨ok.drop, E.d, ⟨rv_t E rfl, trivial⟩⟩
      obtain rfl := Option.some.inj hF
      exact fin _ _ hret
    replace hF := cond_f hc25 hF
    replace E := E.upd 25 hc25 rfl
    refine l_skip E rfl rfl fun a E => ?_
    refine l_skip E rfl rfl fun a E => ?_
    refine l_skip E rfl rfl fun a E => ?_
    refine l_skip E rfl rfl fun a E => ?_
    refine l_skip E rfl rfl fun a E => ?_
    refine l_skip E rfl rfl fun a E => ?_
    refine l_val E ok (y_pickF rfl rfl) rfl rfl fun a E => ?_
    refine l_val E ok (y_assign rfl) rfl rfl fun a E => ?_
    refine wpList_nil ?_
    refine t_norm ?_
    refine wp_ret ?_
    have hret : calqueref09_Few_R u m0 S false a w := ⟨ok.drop, E.d, ⟨rv_t E rfl, trivial⟩⟩
    obtain rfl := Option.some.inj hF
    exact fin _ _ hret
  rintro i_10 a w r ⟨ok, E, r11⟩ hF
  replace hF : calqueref09_Few_b1 N d_0 i_10 = some r := hF
  unfold calqueref09_Few_b1 at hF
  refine wp_seq ?_
  refine wp_seq ?_
  refine c_region ?_
  refine l_val E ok (y_move rfl) rfl rfl fun a E => ?_
  refine l_val E ok (y_fieldAddr fo_25_1 rfl) rfl rfl fun a E => ?_
  refine l_val E ok (y_load one_22 rfl (Holds.own 0 rfl rfl)) rfl rfl fun a E => ?_
  refine l_val E ok (y_lenL sl_22 h3 rfl) rfl rfl fun a E => ?_
  refine l_val E ok (y_lss rfl rfl) rfl rfl fun a E => ?_
  refine wpList_nil ?_
  refine t_norm ?_
  refine c_if E rfl (fun hc12 => ?_) (fun hc12 => ?_)
  rotate_left
  · replace hF := cond_f hc12 hF
    refine wp_exit ?_
    refine t_exit ?_
    obtain rfl := Option.some.inj hF
    exact step_o (by nofun) (sl ⟨rfl, ⟨ok, E.keep [1, 2]⟩⟩)
  replace hF := cond_t hc12 hF
  refine wp_skip ?_
  refine t_norm ?_
  refine wp_seq ?_
  refine wp_block ?_
  refine wp_seq ?_
  refine c_region ?_
  refine l_val E ok (y_fieldAddr fo_25_1 rfl) rfl rfl fun a E => ?_
  refine l_val E ok (y_load one_22 rfl (Holds.own 0 rfl rfl)) rfl rfl fun a E => ?_
  refine l_val E ok (y_move rfl) rfl rfl fun a E => ?_
  obtain ⟨x13, e14, hF⟩ := bnd hF
  obtain ⟨b15, o16, es17, hl18, rr19, at20, yy21⟩ := idxAt sl_22 h3 e14 (P := Try.prog) (X := .tmp 14) (I := .tmp 15) (kd := .i64) (ev_of E rfl) (ev_of E rfl)
  obtain ⟨c22, rfl, h23⟩ := pL_cell rr19
  refine l_val E ok (yy21 _ _) rfl rfl fun a E => ?_
  refine l_val E ok (y_load one_56 rfl (Holds.ro at20)) rfl rfl fun a E => ?_
  refine l_val E ok (y_lenL sl_56 h23 rfl) rfl rfl fun a E => ?_
  refine l_val E ok (y_gtr rfl rfl) rfl rfl fun a E => ?_
  refine wpList_nil ?_
  refine t_norm ?_
  refine c_if E rfl (fun hc24 => ?_) (fun hc24 => ?_)
  rotate_left
  · replace hF := cond_f hc24 hF
    refine wp_skip ?_
    refine b_norm ?_
    refine t_norm ?_
    refine c_region ?_
    refine l_val E ok (y_move rfl) rfl rfl fun a E => ?_
    refine l_val E ok (y_add rfl rfl (InR.inc r11 (pL_InR h3) hc12)) rfl rfl fun a E => ?_
    refine l_val E ok (y_assign rfl) rfl rfl fun a E => ?_
    refine wpList_nil ?_
    obtain rfl := Option.some.inj hF
    exact step_n ⟨ok, E.keep [1, 2, 5], (InR.inc r11 (pL_InR h3) hc12)⟩
  replace hF := cond_t hc24 hF
  refine wp_seq ?_
  refine c_region ?_
  refine l_val E ok (y_assign rfl) rfl rfl fun a E => ?_
  refine wpList_nil ?_
  refine t_norm ?_
  refine wp_ret ?_
  refine b_ret ?_
  refine t_ret ?_
  have hret : calqueref09_Few_R u m0 S false a w := ⟨ok.drop, E.d, ⟨rv_t E rfl, trivial⟩⟩
  obtain rfl := Option.some.inj hF
  exact step_o (by nofun) (sr ⟨rfl, hret⟩)

def calquelaw09_to_R (u : World) (m0 : Mem) (S : Segs) (vv : List Value) (_r : DFA) (a : Act) (w : World) : Prop :=
  Ok u m0 S w ∧ a.defers = [] ∧ RVs Try.prog a w [.c 2 29 (.agg vv.toArray)]
set_option maxHeartbeats 4000000 in
set_option maxRecDepth 100000 in
theorem calquelaw09_to_w {u : World} {m0 : Mem} {S : Segs} {w : World} (N : Nat) (vd_0 : List Value) (d_0 : DFA) (hd_0 : pDFA m0 vd_0 d_0) {r : DFA} (hF : calquelaw09_to N d_0 = some r) (ok : Ok u m0 S w) :
    Calls Try.prog 14 [.agg vd_0.toArray].toArray w fun e w' => e = .returned (.agg vd_0.toArray) ∧ Ok u m0 S w' := by
  obtain ⟨c2, c4, rfl, r1, h3, h5⟩ := hd_0
  have le_m0 := Mem.le.refl m0
  unfold calquelaw09_to at hF
  have fin : ∀ a w, calquelaw09_to_R u m0 S [(Value.int .i64 d_0.Start), c2, c4] r a w → bodyPost Try.prog Try.f14 (fun e w' => e = .returned (.agg [(Value.int .i64 d_0.Start), c2, c4].toArray) ∧ Ok u m0 S w') .ret a w := by
    intro a w h
    obtain ⟨ok, hd, hrv⟩ := h
    exact c_ret2 [.c 2 29 (.agg [(Value.int .i64 d_0.Start), c2, c4].toArray)] hd rfl hrv ⟨rfl, ok⟩
  refine enter Try.func14 rfl rfl rfl fun a E => ?_
  refine wp_seq ?_
  refine c_region ?_
  refine l_box E ok rfl rfl rfl fun b6 a w E ok => ?_
  refine l_alloc E ok zero_29 rfl rfl fun b7 a w E ok => ?_
  refine wpList_nil ?_
  refine t_norm ?_
  refine wp_seq ?_
  refine c_region ?_
  refine l_val E ok (y_loadAgg (cs := [(Value.int .i64 d_0.Start), c2, c4]) agg_25 rfl rfl (Holds.own 1 rfl rfl)) rfl rfl fun a E => ?_
  refine l_storeB E ok 0 rfl rfl rfl inf_29 rfl rfl ⟨rfl, (pL_one h3), (pL_one h5), trivial⟩ rfl rfl fun w ok => ?_
  refine wpList_nil ?_
  refine t_norm ?_
  refine wp_ret ?_
  have hret : calquelaw09_to_R u m0 S [(Value.int .i64 d_0.Start), c2, c4] d_0 a w := ⟨ok.drop.drop, E.d, ⟨rv_c (cs := [(Value.int .i64 d_0.Start), c2, c4]) E ok rfl agg_29 rfl (Holds.own 0 rfl rfl), trivial⟩⟩
  obtain rfl := Option.some.inj hF
  exact fin _ _ hret

def calqueref09_Valid_R (u : World) (m0 : Mem) (S : Segs) (r : Bool) (a : Act) (w : World) : Prop :=
  Ok u m0 S w ∧ a.defers = [] ∧ RVs Try.prog a w [.t 2 (.bool r)]
set_option maxHeartbeats 4000000 in
set_option maxRecDepth 100000 in
theorem calqueref09_Valid_w {u : World} {m0 : Mem} {S : Segs} {w : World} (N : Nat) (vd_0 : List Value) (d_0 : DFA) (hd_0 : pDFA m0 vd_0 d_0) {r : Bool} (hF : calqueref09_Valid N d_0 = some r) (ok : Ok u m0 S w) :
    Calls Try.prog 15 [.agg vd_0.toArray].toArray w fun e w' => (e = .returned (.bool r) ∧ Ok u m0 S w') := by
  obtain ⟨c2, c4, rfl, r1, h3, h5⟩ := hd_0
  have le_m0 := Mem.le.refl m0
  unfold calqueref09_Valid at hF
  have fin : ∀ a w, calqueref09_Valid_R u m0 S r a w → bodyPost Try.prog Try.f15 (fun e w' => (e = .returned (.bool r) ∧ Ok u m0 S w')) .ret a w := by
    intro a w h
    obtain ⟨ok, hd, hrv⟩ := h
    exact c_ret2 [.t 2 (.bool r)] hd rfl hrv ⟨rfl, ok⟩
  refine enter Try.func15 rfl rfl rfl fun a E => ?_
  refine wp_seq ?_
  refine c_region ?_
  refine l_box E ok rfl rfl rfl fun b6 a w E ok => ?_
  refine l_val E ok (y_assign rfl) rfl rfl fun a E => ?_
  refine wpList_nil ?_
  refine t_norm ?_
  refine wp_seq ?_
  refine c_region ?_
  refine l_val E ok (y_fieldAddr fo_25_1 rfl) rfl rfl fun a E => ?_
  refine l_val E ok (y_load one_22 rfl (Holds.own 0 rfl rfl)) rfl rfl fun a E => ?_
  refine l_val E ok (y_lenL sl_22 h3 rfl) rfl rfl fun a E => ?_
  refine l_val E ok (y_assign rfl) rfl rfl fun a E => ?_
  refine wpList_nil ?_
  refine t_norm ?_
  refine wp_seq ?_
  refine wp_seq ?_
  refine c_region ?_
  refine l_val E ok (y_move rfl) rfl rfl fun a E => ?_
  refine l_val E ok (y_lss rfl rfl) rfl rfl fun a E => ?_
  refine l_val E ok (y_move rfl) rfl rfl fun a E => ?_
  refine bsplit (decide ((d_0.Next.length : Int) < 1)) (fun hc7 => ?_) (fun hc7 => ?_)
  · replace hF := cond_t hc7 hF
    replace E := E.upd 11 hc7 rfl
    refine l_skip E rfl rfl fun a E => ?_
    refine l_skip E rfl rfl fun a E => ?_
    refine l_val E ok (y_pickT rfl rfl) rfl rfl fun a E => ?_
    refine l_val E ok (y_move rfl) rfl rfl fun a E => ?_
    refine l_skip E rfl rfl fun a E => ?_
    refine l_skip E rfl rfl fun a E => ?_
    refine l_skip E rfl rfl fun a E => ?_
    refine l_skip E rfl rfl fun a E => ?_
    refine l_skip E rfl rfl fun a E => ?_
    refine l_val E ok (y_pickT rfl rfl) rfl rfl fun a E => ?_
    refine l_val E ok (y_move rfl) rfl rfl fun a E => ?_
    refine l_skip E rfl rfl fun a E => ?_
    refine l_skip E rfl rfl fun a E => ?_
    refine l_skip E rfl rfl fun a E => ?_
    refine l_val E ok (y_pickT rfl rfl) rfl rfl fun a E => ?_
    refine l_val E ok (y_move rfl) rfl rfl fun a E => ?_
    refine l_skip E rfl rfl fun a E => ?_
    refine l_skip E rfl rfl fun a E => ?_
    refine l_skip E rfl rfl fun a E => ?_
    refine l_skip E rfl rfl fun a E => ?_
    refine l_val E ok (y_pickT rfl rfl) rfl rfl fun a E => ?_
    refine wpList_nil ?_
    refine t_norm ?_
    refine c_if E rfl (fun _ => ?_) (fun h => by cases h)
    refine wp_seq ?_
    refine c_region ?_
    refine l_val E ok (y_assign rfl) rfl rfl fun a E => ?_
    refine wpList_nil ?_
    refine t_norm ?_
    refine wp_ret ?_
    refine t_ret ?_
    have hret : calqueref09_Valid_R u m0 S false a w := ⟨ok.drop, E.d, ⟨rv_t E rfl, trivial⟩⟩
    obtain rfl := Option.some.inj hF
    exact fin _ _ hret
  replace hF := cond_f hc7 hF
  replace E := E.upd 11 hc7 rfl
  refine l_val E ok (y_move rfl) rfl rfl fun a E => ?_
  refine l_val E ok (y_gtr rfl rfl) rfl rfl fun a E => ?_
  refine l_val E ok (y_pickF rfl rfl) rfl rfl fun a E => ?_
  refine l_val E ok (y_move rfl) rfl rfl fun a E => ?_
  refine bsplit (decide ((d_0.Next.length : Int) > 2000)) (fun hc8 => ?_) (fun hc8 => ?_)
  · replace hF := cond_t hc8 hF
    replace E := E.upd 15 hc8 rfl
    refine l_skip E rfl rfl fun a E => ?_
    refine l_skip E rfl rfl fun a E => ?_
    refine l_skip E rfl rfl fun a E => ?_
    refine l_skip E rfl rfl fun a E => ?_
    refine l_skip E rfl rfl fun a E => ?_
    refine l_val E ok (y_pickT rfl rfl) rfl rfl fun a E => ?_
    refine l_val E ok (y_move rfl) rfl rfl fun a E => ?_
    refine l_skip E rfl rfl fun a E => ?_
    refine l_skip E rfl rfl fun a E => ?_
    refine l_skip E rfl rfl fun a E => ?_
    refine l_val E ok (y_pickT rfl rfl) rfl rfl fun a E => ?_
    refine l_val E ok (y_move rfl) rfl rfl fun a E => ?_
    refine l_skip E rfl rfl fun a E => ?_
    refine l_skip E rfl rfl fun a E => ?_
    refine l_skip E rfl rfl fun a E => ?_
    refine l_skip E rfl rfl fun a E => ?_
    refine l_val E ok (y_pickT rfl rfl) rfl rfl fun a E => ?_
    refine wpList_nil ?_
    refine t_norm ?_
    refine c_if E rfl (fun _ => ?_) (fun h => by cases h)
    refine wp_seq ?_
    refine c_region ?_
    refine l_val E ok (y_assign rfl) rfl rfl fun a E => ?_
    refine wpList_nil ?_
    refine t_norm ?_
    refine wp_ret ?_
    refine t_ret ?_
    have hret : calqueref09_Valid_R u m0 S false a w := ⟨ok.drop, E.d, ⟨rv_t E rfl, trivial⟩⟩
    obtain rfl := Option.some.inj hF
    exact fin _ _ hret
  replace hF := cond_f hc8 hF
  replace E := E.upd 15 hc8 rfl
  refine l_val E ok (y_fieldAddr fo_25_2 rfl) rfl rfl fun a E => ?_
  refine l_val E ok (y_load one_23 rfl (Holds.own 0 rfl rfl)) rfl rfl fun a E => ?_
  refine l_val E ok (y_lenL sl_23 h5 rfl) rfl rfl fun a E => ?_
  refine l_val E ok (y_move rfl) rfl rfl fun a E => ?_
  refine l_val E ok (y_neq rfl rfl) rfl rfl fun a E => ?_
  refine l_val E ok (y_pickF rfl rfl) rfl rfl fun a E => ?_
  refine l_val E ok (y_move rfl) rfl rfl fun a E => ?_
  refine bsplit ((d_0.Accept.length : Int) != (d_0.Next.length : Int)) (fun hc9 => ?_) (fun hc9 => ?_)
  · replace hF := cond_t hc9 hF
    replace E := E.upd 22 hc9 rfl
    refine l_skip E rfl rfl fun a E => ?_
    refine l_skip E rfl rfl fun a E => ?_
    refine l_skip E rfl rfl fun a E => ?_
    refine l_val E ok (y_pickT rfl rfl) rfl rfl fun a E => ?_
    refine l_val E ok (y_move rfl) rfl rfl fun a E => ?_
    refine l_skip E rfl rfl fun a E => ?_
    refine l_skip E rfl rfl fun a E => ?_
    refine l_skip E rfl rfl fun a E => ?_
    refine l_skip E rfl rfl fun a E => ?_
    refine l_val E ok (y_pickT rfl rfl) rfl rfl fun a E => ?_
    refine wpList_nil ?_
    refine t_norm ?_
    refine c_if E rfl (fun _ => ?_) (fun h => by cases h)
    refine wp_seq ?_
    refine c_region ?_
    refine l_val E ok (y_assign rfl) rfl rfl fun a E => ?_
    refine wpList_nil ?_
    refine t_norm ?_
    refine wp_ret ?_
    refine t_ret ?_
    have hret : calqueref09_Valid_R u m0 S false a w := ⟨ok.drop, E.d, ⟨rv_t E rfl, trivial⟩⟩
    obtain rfl := Option.some.inj hF
    exact fin _ _ hret
  replace hF := cond_f hc9 hF
  replace E := E.upd 22 hc9 rfl
  refine l_val E ok (y_fieldAddr fo_25_0 rfl) rfl rfl fun a E => ?_
  refine l_val E ok (y_load one_3 rfl (Holds.own 0 rfl rfl)) rfl rfl fun a E => ?_
  refine l_val E ok (y_lss rfl rfl) rfl rfl fun a E => ?_
  refine l_val E ok (y_pickF rfl rfl) rfl rfl fun a E => ?_
  refine l_val E ok (y_move rfl) rfl rfl fun a E => ?_
  refine bsplit (decide (d_0.Start < 0)) (fun hc10 => ?_) (fun hc10 => ?_)
  · replace hF := cond_t hc10 hF
    replace E := E.upd 27 hc10 rfl
    refine l_skip E rfl rfl fun a E => ?_
    refine l_skip E rfl rfl fun a E => ?_
    refine l_skip E rfl rfl fun a E => ?_
    refine l_skip E rfl rfl fun a E => ?_
    refine l_val E ok (y_pickT rfl rfl) rfl rfl fun a E => ?_
    refine wpList_nil ?_
    refine t_norm ?_
    refine c_if E rfl (fun _ => ?_) (fun h => by cases h)
    refine wp_seq ?_
    refine c_region ?_
    refine l_val E ok (y_assign rfl) rfl rfl fun a E => ?_
    refine wpList_nil ?_
    refine t_norm ?_
    refine wp_ret ?_
    refine t_ret ?_
    have hret : calqueref09_Valid_R u m0 S false a w := ⟨ok.drop, E.d, ⟨rv_t E rfl, trivial⟩⟩
    obtain rfl := Option.some.inj hF
    exact fin _ _ hret
  replace hF := cond_f hc10 hF
  replace E := E.upd 27 hc10 rfl
  refine l_val E ok (y_fieldAddr fo_25_0 rfl) rfl rfl fun a E => ?_
  refine l_val E ok (y_load one_3 rfl (Holds.own 0 rfl rfl)) rfl rfl fun a E => ?_
  refine l_val E ok (y_move rfl) rfl rfl fun a E => ?_
  refine l_val E ok (y_geq rfl rfl) rfl rfl fun a E => ?_
  refine l_val E ok (y_pickF rfl rfl) rfl rfl fun a E => ?_
  refine wpList_nil ?_
  refine t_norm ?_
  refine c_if E rfl (fun hc11 => ?_) (fun hc11 => ?_)
  · replace hF := cond_t hc11 hF
    refine wp_seq ?_
    refine c_region ?_
    refine l_val E ok (y_assign rfl) rfl rfl fun a E => ?_
    refine wpList_nil ?_
    refine t_norm ?_
    refine wp_ret ?_
    refine t_ret ?_
    have hret : calqueref09_Valid_R u m0 S false a w := ⟨ok.drop, E.d, ⟨rv_t E rfl, trivial⟩⟩
    obtain rfl := Option.some.inj hF
    exact fin _ _ hret
  replace hF := cond_f hc11 hF
  refine wp_skip ?_
  refine t_norm ?_
  refine wp_seq ?_
  refine wp_seq ?_
  refine c_region ?_
  refine l_val E ok (y_assign rfl) rfl rfl fun a E => ?_
  refine wpList_nil ?_
  refine t_norm ?_
  refine wp_block ?_
  obtain ⟨o13, hL, hF⟩ := bnd hF
  refine c_loop _ (fun (s : Int) a w => Ok u m0 ([(b6, Obj.cells [(Value.int .i64 d_0.Start), c2, c4].toArray 25 (0, 0))] :: S) w ∧ Env 70 a [(1, (Value.pointer (some ⟨b6, 0, none⟩))), (3, (Value.int .i64 (d_0.Next.length : Int))), (4, (Value.int .i64 s))] ∧ InR .i64 s) (fun (b : (Unit ⊕ Bool)) e a w => (Sum.elim (fun b82 => e = (.exit 0) ∧ Ok u m0 ([(b6, Obj.cells [(Value.int .i64 d_0.Start), c2, c4].toArray 25 (0, 0))] :: S) w ∧ Env 70 a []) (fun b83 => e = .ret ∧ calqueref09_Valid_R u m0 S b83 a w)) b) ?_ ?_ N _ a w hL ⟨ok, E.keep [1, 3, 4], (show InR .i64 (0) by decide)⟩
  rotate_left
  · intro e a w _ hO
    rcases o13 with o13 | o13
    rotate_left
    · replace hF := elim_r hF
      obtain ⟨rfl, hret⟩ := hO
      refine b_ret ?_
      refine t_ret ?_
      obtain rfl := Option.some.inj hF
      exact fin _ _ hret
    replace hF := elim_l hF
    obtain ⟨rfl, ok, E⟩ := hO
    refine b_hit ?_
    refine t_norm ?_
    refine wp_seq ?_
    refine c_region ?_
    refine l_val E ok (y_assign rfl) rfl rfl fun a E => ?_
    refine wpList_nil ?_
    refine t_norm ?_
    refine wp_ret ?_
    have hret : calqueref09_Valid_R u m0 S true a w := ⟨ok.drop, E.d, ⟨rv_t E rfl, trivial⟩⟩
    obtain rfl := Option.some.inj hF
    exact fin _ _ hret
  rintro i_15 a w r ⟨ok, E, r16⟩ hF
  replace hF : calqueref09_Valid_b1 N d_0 i_15 = some r := hF
  unfold calqueref09_Valid_b1 at hF
  refine wp_seq ?_
  refine wp_seq ?_
  refine c_region ?_
  refine l_val E ok (y_move rfl) rfl rfl fun a E => ?_
  refine l_val E ok (y_move rfl) rfl rfl fun a E => ?_
  refine l_val E ok (y_lss rfl rfl) rfl rfl fun a E => ?_
  refine wpList_nil ?_
  refine t_norm ?_
  refine c_if E rfl (fun hc17 => ?_) (fun hc17 => ?_)
  rotate_left
  · replace hF := cond_f hc17 hF
    refine wp_exit ?_
    refine t_exit ?_
    obtain rfl := Option.some.inj hF
    exact step_o (by nofun) (sl ⟨rfl, ⟨ok, E.keep []⟩⟩)
  replace hF := cond_t hc17 hF
  refine wp_skip ?_
  refine t_norm ?_
  refine wp_seq ?_
  refine wp_block ?_
  refine wp_seq ?_
  refine wp_seq ?_
  refine c_region ?_
  refine l_val E ok (y_fieldAddr fo_25_1 rfl) rfl rfl fun a E => ?_
  refine l_val E ok (y_load one_22 rfl (Holds.own 0 rfl rfl)) rfl rfl fun a E => ?_
  refine l_val E ok (y_move rfl) rfl rfl fun a E => ?_
  obtain ⟨x18, e19, hF⟩ := bnd hF
  obtain ⟨b20, o21, es22, hl23, rr24, at25, yy26⟩ := idxAt sl_22 h3 e19 (P := Try.prog) (X := .tmp 39) (I := .tmp 40) (kd := .i64) (ev_of E rfl) (ev_of E rfl)
  obtain ⟨c27, rfl, h28⟩ := pL_cell rr24
  refine l_val E ok (yy26 _ _) rfl rfl fun a E => ?_
  refine l_val E ok (y_load one_56 rfl (Holds.ro at25)) rfl rfl fun a E => ?_
  refine l_val E ok (y_lenL sl_56 h28 rfl) rfl rfl fun a E => ?_
  refine l_val E ok (y_neq rfl rfl) rfl rfl fun a E => ?_
  refine wpList_nil ?_
  refine t_norm ?_
  refine c_if E rfl (fun hc29 => ?_) (fun hc29 => ?_)
  · replace hF := cond_t hc29 hF
    refine wp_seq ?_
    refine c_region ?_
    refine l_val E ok (y_assign rfl) rfl rfl fun a E => ?_
    refine wpList_nil ?_
    refine t_norm ?_
    refine wp_ret ?_
    refine t_ret ?_
    refine b_ret ?_
    refine t_ret ?_
    have hret : calqueref09_Valid_R u m0 S false a w := ⟨ok.drop, E.d, ⟨rv_t E rfl, trivial⟩⟩
    obtain rfl := Option.some.inj hF
    exact step_o (by nofun) (sr ⟨rfl, hret⟩)
  replace hF := cond_f hc29 hF
  refine wp_skip ?_
  refine t_norm ?_
  refine wp_seq ?_
  refine c_region ?_
  refine l_val E ok (y_assign rfl) rfl rfl fun a E => ?_
  refine wpList_nil ?_
  refine t_norm ?_
  refine wp_block ?_
  obtain ⟨o31, hL, hF⟩ := bnd hF
  refine c_loop _ (fun (s : Int) a w => Ok u m0 ([(b6, Obj.cells [(Value.int .i64 d_0.Start), c2, c4].toArray 25 (0, 0))] :: S) w ∧ Env 70 a [(1, (Value.pointer (some ⟨b6, 0, none⟩))), (3, (Value.int .i64 (d_0.Next.length : Int))), (4, (Value.int .i64 i_15)), (5, (Value.int .i64 s))] ∧ InR .i64 s) (fun (b : (Unit ⊕ Bool)) e a w => (Sum.elim (fun b80 => e = (.exit 2) ∧ Ok u m0 ([(b6, Obj.cells [(Value.int .i64 d_0.Start), c2, c4].toArray 25 (0, 0))] :: S) w ∧ Env 70 a [(1, (Value.pointer (some ⟨b6, 0, none⟩))), (3, (Value.int .i64 (d_0.Next.length : Int))), (4, (Value.int .i64 i_15))]) (fun b81 => e = .ret ∧ calqueref09_Valid_R u m0 S b81 a w)) b) ?_ ?_ N _ a w hL ⟨ok, E.keep [1, 3, 4, 5], (show InR .i64 (0) by decide)⟩
  rotate_left
  · intro e a w _ hO
    rcases o31 with o31 | o31
    rotate_left
    · replace hF := elim_r hF
      obtain ⟨rfl, hret⟩ := hO
      refine b_ret ?_
      refine b_ret ?_
      refine t_ret ?_
      obtain rfl := Option.some.inj hF
      exact step_o (by nofun) (sr ⟨rfl, hret⟩)
    replace hF := elim_l hF
    obtain ⟨rfl, ok, E⟩ := hO
    refine b_hit ?_
    refine b_norm ?_
    refine t_norm ?_
    refine c_region ?_
    refine l_val E ok (y_move rfl) rfl rfl fun a E => ?_
    refine l_val E ok (y_add rfl rfl (InR.inc r16 (pL_InR h3) hc17)) rfl rfl fun a E => ?_
    refine l_val E ok (y_assign rfl) rfl rfl fun a E => ?_
    refine wpList_nil ?_
    obtain rfl := Option.some.inj hF
    exact step_n ⟨ok, E.keep [1, 3, 4], (InR.inc r16 (pL_InR h3) hc17)⟩
  rintro c_33 a w r ⟨ok, E, r34⟩ hF
  replace hF : calqueref09_Valid_b2 N d_0 i_15 c_33 = some r := hF
  unfold calqueref09_Valid_b2 at hF
  refine wp_seq ?_
  refine wp_seq ?_
  refine c_region ?_
  refine l_val E ok (y_move rfl) rfl rfl fun a E => ?_
  refine l_val E ok (y_lss rfl rfl) rfl rfl fun a E => ?_
  refine wpList_nil ?_
  refine t_norm ?_
  refine c_if E rfl (fun hc35 => ?_) (fun hc35 => ?_)
  rotate_left
  · replace hF := cond_f hc35 hF
    refine wp_exit ?_
    refine t_exit ?_
    obtain rfl := Option.some.inj hF
    exact step_o (by nofun) (sl ⟨rfl, ⟨ok, E.keep [1, 3, 4]⟩⟩)
  replace hF := cond_t hc35 hF
  refine wp_skip ?_
  refine t_norm ?_
  refine wp_seq ?_
  refine wp_block ?_
  refine wp_seq ?_
  refine c_region ?_
  refine l_val E ok (y_fieldAddr fo_25_1 rfl) rfl rfl fun a E => ?_
  refine l_val E ok (y_load one_22 rfl (Holds.own 0 rfl rfl)) rfl rfl fun a E => ?_
  refine l_val E ok (y_move rfl) rfl rfl fun a E => ?_
  obtain ⟨x36, e37, hF⟩ := bnd hF
  obtain ⟨b38, o39, es40, hl41, rr42, at43, yy44⟩ := idxAt sl_22 h3 e37 (P := Try.prog) (X := .tmp 50) (I := .tmp 51) (kd := .i64) (ev_of E rfl) (ev_of E rfl)
  obtain ⟨c45, rfl, h46⟩ := pL_cell rr42
  refine l_val E ok (yy44 _ _) rfl rfl fun a E => ?_
  refine l_val E ok (y_load one_56 rfl (Holds.ro at43)) rfl rfl fun a E => ?_
  refine l_val E ok (y_move rfl) rfl rfl fun a E => ?_
  obtain ⟨x47, e48, hF⟩ := bnd hF
  obtain ⟨b49, o50, es51, hl52, rr53, at54, yy55⟩ := idxAt sl_56 h46 e48 (P := Try.prog) (X := .tmp 53) (I := .tmp 54) (kd := .i64) (ev_of E rfl) (ev_of E rfl)
  obtain ⟨rfl, r56⟩ := rr53
  refine l_val E ok (yy55 _ _) rfl rfl fun a E => ?_
  refine l_val E ok (y_load one_3 rfl (Holds.ro at54)) rfl rfl fun a E => ?_
  refine l_val E ok (y_lss rfl rfl) rfl rfl fun a E => ?_
  refine l_val E ok (y_move rfl) rfl rfl fun a E => ?_
  refine bsplit (decide (x47 < 0)) (fun hc57 => ?_) (fun hc57 => ?_)
  · replace hF := cond_t hc57 hF
    replace E := E.upd 58 hc57 rfl
    refine l_skip E rfl rfl fun a E => ?_
    refine l_skip E rfl rfl fun a E => ?_
    refine l_skip E rfl rfl fun a E => ?_
    refine l_skip E rfl rfl fun a E => ?_
    refine l_skip E rfl rfl fun a E => ?_
    refine l_skip E rfl rfl fun a E => ?_
    refine l_skip E rfl rfl fun a E => ?_
    refine l_skip E rfl rfl fun a E => ?_
    refine l_skip E rfl rfl fun a E => ?_
    refine l_skip E rfl rfl fun a E => ?_
    refine l_val E ok (y_pickT rfl rfl) rfl rfl fun a E => ?_
    refine wpList_nil ?_
    refine t_norm ?_
    refine c_if E rfl (fun _ => ?_) (fun h => by cases h)
    refine wp_seq ?_
    refine c_region ?_
    refine l_val E ok (y_assign rfl) rfl rfl fun a E => ?_
    refine wpList_nil ?_
    refine t_norm ?_
    refine wp_ret ?_
    refine b_ret ?_
    refine t_ret ?_
    have hret : calqueref09_Valid_R u m0 S false a w := ⟨ok.drop, E.d, ⟨rv_t E rfl, trivial⟩⟩
    obtain rfl := Option.some.inj hF
    exact step_o (by nofun) (sr ⟨rfl, hret⟩)
  replace hF := cond_f hc57 hF
  replace E := E.upd 58 hc57 rfl
  refine l_val E ok (y_fieldAddr fo_25_1 rfl) rfl rfl fun a E => ?_
  refine l_val E ok (y_load one_22 rfl (Holds.own 0 rfl rfl)) rfl rfl fun a E => ?_
  refine l_val E ok (y_move rfl) rfl rfl fun a E => ?_
  obtain ⟨x58, e59, hF⟩ := bnd hF
  obtain ⟨b60, o61, es62, hl63, rr64, at65, yy66⟩ := idxAt sl_22 h3 e59 (P := Try.prog) (X := .tmp 60) (I := .tmp 61) (kd := .i64) (ev_of E rfl) (ev_of E rfl)
  obtain ⟨c67, rfl, h68⟩ := pL_cell rr64
  refine l_val E ok (yy66 _ _) rfl rfl fun a E => ?_
  refine l_val E ok (y_load one_56 rfl (Holds.ro at65)) rfl rfl fun a E => ?_
  refine l_val E ok (y_move rfl) rfl rfl fun a E => ?_
  obtain ⟨x69, e70, hF⟩ := bnd hF
  obtain ⟨b71, o72, es73, hl74, rr75, at76, yy77⟩ := idxAt sl_56 h68 e70 (P := Try.prog) (X := .tmp 63) (I := .tmp 64) (kd := .i64) (ev_of E rfl) (ev_of E rfl)
  obtain ⟨rfl, r78⟩ := rr75
  refine l_val E ok (yy77 _ _) rfl rfl fun a E => ?_
  refine l_val E ok (y_load one_3 rfl (Holds.ro at76)) rfl rfl fun a E => ?_
  refine l_val E ok (y_move rfl) rfl rfl fun a E => ?_
  refine l_val E ok (y_geq rfl rfl) rfl rfl fun a E => ?_
  refine l_val E ok (y_pickF rfl rfl) rfl rfl fun a E => ?_
  refine wpList_nil ?_
  refine t_norm ?_
  refine c_if E rfl (fun hc79 => ?_) (fun hc79 => ?_)
  rotate_left
  · replace hF := cond_f hc79 hF
    refine wp_skip ?_
    refine b_norm ?_
    refine t_norm ?_
    refine c_region ?_
    refine l_val E ok (y_move rfl) rfl rfl fun a E => ?_
    refine l_val E ok (y_add rfl rfl (InR.inc r34 (show InR .i64 (11) by decide) hc35)) rfl rfl fun a E => ?_
    refine l_val E ok (y_assign rfl) rfl rfl fun a E => ?_
    refine wpList_nil ?_
    obtain rfl := Option.some.inj hF
    exact step_n ⟨ok, E.keep [1, 3, 4, 5], (InR.inc r34 (show InR .i64 (11) by decide) hc35)⟩
  replace hF := cond_t hc79 hF
  refine wp_seq ?_
  refine c_region ?_
  refine l_val E ok (y_assign rfl) rfl rfl fun a E => ?_
  refine wpList_nil ?_
  refine t_norm ?_
  refine wp_ret ?_
  refine b_ret ?_
  refine t_ret ?_
  have hret : calqueref09_Valid_R u m0 S false a w := ⟨ok.drop, E.d, ⟨rv_t E rfl, trivial⟩⟩
  obtain rfl := Option.some.inj hF
  exact step_o (by nofun) (sr ⟨rfl, hret⟩)

def calqueref09_Symbol_R (u : World) (m0 : Mem) (S : Segs) (r : Int) (a : Act) (w : World) : Prop :=
  Ok u m0 S w ∧ a.defers = [] ∧ RVs Try.prog a w [.t 2 (.int .i64 r)] ∧ InR .i64 r
set_option maxHeartbeats 4000000 in
set_option maxRecDepth 100000 in
theorem calqueref09_Symbol_w {u : World} {m0 : Mem} {S : Segs} {w : World} (N : Nat) (c_0 : Int) (rc_0 : InR .u8 c_0) {r : Int} (hF : calqueref09_Symbol N c_0 = some r) (ok : Ok u m0 S w) :
    Calls Try.prog 35 [Value.int .u8 c_0].toArray w fun e w' => (e = .returned (.int .i64 r) ∧ Ok u m0 S w') ∧ InR .i64 r := by
  have le_m0 := Mem.le.refl m0
  unfold calqueref09_Symbol at hF
  have fin : ∀ a w, calqueref09_Symbol_R u m0 S r a w → bodyPost Try.prog Try.f35 (fun e w' => (e = .returned (.int .i64 r) ∧ Ok u m0 S w') ∧ InR .i64 r) .ret a w := by
    intro a w h
    obtain ⟨ok, hd, hrv, h0⟩ := h
    exact c_ret2 [.t 2 (.int .i64 r)] hd rfl hrv ⟨⟨rfl, ok⟩, h0⟩
  refine enter Try.func35 rfl rfl rfl fun a E => ?_
  refine wp_seq ?_
  refine c_region ?_
  refine l_val E ok (y_assign rfl) rfl rfl fun a E => ?_
  refine wpList_nil ?_
  refine t_norm ?_
  refine wp_seq ?_
  refine wp_seq ?_
  refine c_region ?_
  refine l_val E ok (y_move rfl) rfl rfl fun a E => ?_
  refine l_val E ok (y_eql rfl rfl) rfl rfl fun a E => ?_
  refine wpList_nil ?_
  refine t_norm ?_
  refine c_if E rfl (fun hc1 => ?_) (fun hc1 => ?_)
  · replace hF := cond_t hc1 hF
    refine wp_seq ?_
    refine c_region ?_
    refine l_val E ok (y_assign rfl) rfl rfl fun a E => ?_
    refine wpList_nil ?_
    refine t_norm ?_
    refine wp_ret ?_
    refine t_ret ?_
    have hret : calqueref09_Symbol_R u m0 S 10 a w := ⟨ok, E.d, ⟨rv_t E rfl, trivial⟩, (show InR .i64 (10) by decide)⟩
    obtain rfl := Option.some.inj hF
    exact fin _ _ hret
  replace hF := cond_f hc1 hF
  refine wp_skip ?_
  refine t_norm ?_
  refine wp_seq ?_
  refine wp_seq ?_
  refine c_region ?_
  refine l_val E ok (y_move rfl) rfl rfl fun a E => ?_
  refine l_val E ok (y_lss rfl rfl) rfl rfl fun a E => ?_
  refine l_val E ok (y_move rfl) rfl rfl fun a E => ?_
  refine bsplit (decide (c_0 < 48)) (fun hc2 => ?_) (fun hc2 => ?_)
  · replace hF := cond_t hc2 hF
    replace E := E.upd 7 hc2 rfl
    refine l_skip E rfl rfl fun a E => ?_
    refine l_skip E rfl rfl fun a E => ?_
    refine l_val E ok (y_pickT rfl rfl) rfl rfl fun a E => ?_
    refine wpList_nil ?_
    refine t_norm ?_
    refine c_if E rfl (fun _ => ?_) (fun h => by cases h)
    refine wp_seq ?_
    refine c_region ?_
    refine l_val E ok (y_assign rfl) rfl rfl fun a E => ?_
    refine wpList_nil ?_
    refine t_norm ?_
    refine wp_ret ?_
    refine t_ret ?_
    have hret : calqueref09_Symbol_R u m0 S (-1) a w := ⟨ok, E.d, ⟨rv_t E rfl, trivial⟩, (show InR .i64 (-1) by decide)⟩
    obtain rfl := Option.some.inj hF
    exact fin _ _ hret
  replace hF := cond_f hc2 hF
  replace E := E.upd 7 hc2 rfl
  refine l_val E ok (y_move rfl) rfl rfl fun a E => ?_
  refine l_val E ok (y_gtr rfl rfl) rfl rfl fun a E => ?_
  refine l_val E ok (y_pickF rfl rfl) rfl rfl fun a E => ?_
  refine wpList_nil ?_
  refine t_norm ?_
  refine c_if E rfl (fun hc3 => ?_) (fun hc3 => ?_)
  · replace hF := cond_t hc3 hF
    refine wp_seq ?_
    refine c_region ?_
    refine l_val E ok (y_assign rfl) rfl rfl fun a E => ?_
    refine wpList_nil ?_
    refine t_norm ?_
    refine wp_ret ?_
    refine t_ret ?_
    have hret : calqueref09_Symbol_R u m0 S (-1) a w := ⟨ok, E.d, ⟨rv_t E rfl, trivial⟩, (show InR .i64 (-1) by decide)⟩
    obtain rfl := Option.some.inj hF
    exact fin _ _ hret
  replace hF := cond_f hc3 hF
  refine wp_skip ?_
  refine t_norm ?_
  refine wp_seq ?_
  refine c_region ?_
  refine l_val E ok (y_move rfl) rfl rfl fun a E => ?_
  refine l_val E ok (y_subw rfl rfl) rfl rfl fun a E => ?_
  refine l_val E ok (y_convw Try.underlying5 Try.underlying3 rfl (InR.wrap _ _) (by decide)) rfl rfl fun a E => ?_
  refine l_val E ok (y_assign rfl) rfl rfl fun a E => ?_
  refine wpList_nil ?_
  refine t_norm ?_
  refine wp_ret ?_
  have hret : calqueref09_Symbol_R u m0 S (IntKind.wrap .u8 (c_0 - 48)) a w := ⟨ok, E.d, ⟨rv_t E rfl, trivial⟩, (InR.widen (InR.wrap _ _) (by decide))⟩
  obtain rfl := Option.some.inj hF
  exact fin _ _ hret

def calqueref09_Run_R (u : World) (m0 : Mem) (S : Segs) (r : Bool) (a : Act) (w : World) : Prop :=
  Ok u m0 S w ∧ a.defers = [] ∧ RVs Try.prog a w [.t 4 (.bool r)]
set_option maxHeartbeats 4000000 in
set_option maxRecDepth 100000 in
theorem calqueref09_Run_w {u : World} {m0 : Mem} {S : Segs} {w : World} (N : Nat) (vd_0 : List Value) (d_0 : DFA) (hd_0 : pDFA m0 vd_0 d_0) (word_1 : List UInt8) (lword_1 : word_1.length ≤ LIMS) {r : Bool} (hF : calqueref09_Run N d_0 word_1 = some r) (ok : Ok u m0 S w) :
    Calls Try.prog 17 [.agg vd_0.toArray, Value.string (bs word_1)].toArray w fun e w' => (e = .returned (.bool r) ∧ Ok u m0 S w') := by
  obtain ⟨c2, c4, rfl, r1, h3, h5⟩ := hd_0
  have le_m0 := Mem.le.refl m0
  unfold calqueref09_Run at hF
  have fin : ∀ a w, calqueref09_Run_R u m0 S r a w → bodyPost Try.prog Try.f17 (fun e w' => (e = .returned (.bool r) ∧ Ok u m0 S w')) .ret a w := by
    intro a w h
    obtain ⟨ok, hd, hrv⟩ := h
    exact c_ret2 [.t 4 (.bool r)] hd rfl hrv ⟨rfl, ok⟩
  refine enter Try.func17 rfl rfl rfl fun a E => ?_
  refine wp_seq ?_
  refine c_region ?_
  refine l_box E ok rfl rfl rfl fun b6 a w E ok => ?_
  refine l_val E ok (y_assign rfl) rfl rfl fun a E => ?_
  refine wpList_nil ?_
  refine t_norm ?_
  refine wp_seq ?_
  refine wp_seq ?_
  refine c_region ?_
  refine l_val E ok (y_loadAgg (cs := [(Value.int .i64 d_0.Start), c2, c4]) agg_25 rfl rfl (Holds.own 0 rfl rfl)) rfl rfl fun a E => ?_
  obtain ⟨r7, e8, hF⟩ := bnd hF
  refine l_call E go_15 rfl (calqueref09_Valid_w N _ d_0 ⟨_, _, rfl, r1, h3, h5⟩ e8 ok) rfl rfl ?_
  rintro _ w ⟨rfl, ok⟩
  refine ⟨_, rfl, fun a E => ?_⟩
  refine l_val E ok (y_not rfl) rfl rfl fun a E => ?_
  refine wpList_nil ?_
  refine t_norm ?_
  refine c_if E rfl (fun hc9 => ?_) (fun hc9 => ?_)
  · replace hF := cond_t hc9 hF
    refine wp_seq ?_
    refine c_region ?_
    refine l_val E ok (y_assign rfl) rfl rfl fun a E => ?_
    refine wpList_nil ?_
    refine t_norm ?_
    refine wp_ret ?_
    refine t_ret ?_
    have hret : calqueref09_Run_R u m0 S false a w := ⟨ok.drop, E.d, ⟨rv_t E rfl, trivial⟩⟩
    obtain rfl := Option.some.inj hF
    exact fin _ _ hret
  replace hF := cond_f hc9 hF
  refine wp_skip ?_
  refine t_norm ?_
  refine wp_seq ?_
  refine c_region ?_
  refine l_val E ok (y_fieldAddr fo_25_0 rfl) rfl rfl fun a E => ?_
  refine l_val E ok (y_load one_3 rfl (Holds.own 0 rfl rfl)) rfl rfl fun a E => ?_
  refine l_val E ok (y_assign rfl) rfl rfl fun a E => ?_
  refine wpList_nil ?_
  refine t_norm ?_
  refine wp_seq ?_
  refine wp_seq ?_
  refine c_region ?_
  refine l_val E ok (y_assign rfl) rfl rfl fun a E => ?_
  refine wpList_nil ?_
  refine t_norm ?_
  refine wp_block ?_
  obtain ⟨o12, hL, hF⟩ := bnd hF
  refine c_loop _ (fun (s : Int × Int) a w => Ok u m0 ([(b6, Obj.cells [(Value.int .i64 d_0.Start), c2, c4].toArray 25 (0, 0))] :: S) w ∧ Env 38 a [(1, (Value.string (bs word_1))), (2, (Value.pointer (some ⟨b6, 0, none⟩))), (5, (Value.int .i64 s.1)), (6, (Value.int .i64 s.2))] ∧ InR .i64 s.1 ∧ InR .i64 s.2) (fun (b : (Int ⊕ Bool)) e a w => (Sum.elim (fun b57 => e = (.exit 0) ∧ Ok u m0 ([(b6, Obj.cells [(Value.int .i64 d_0.Start), c2, c4].toArray 25 (0, 0))] :: S) w ∧ Env 38 a [(2, (Value.pointer (some ⟨b6, 0, none⟩))), (5, (Value.int .i64 b57))] ∧ InR .i64 b57) (fun b59 => e = .ret ∧ calqueref09_Run_R u m0 S b59 a w)) b) ?_ ?_ N _ a w hL ⟨ok, E.keep [1, 2, 5, 6], r1, (show InR .i64 (0) by decide)⟩
  rotate_left
  · intro e a w _ hO
    rcases o12 with o12 | o12
    rotate_left
    · replace hF := elim_r hF
      obtain ⟨rfl, hret⟩ := hO
      refine b_ret ?_
      refine t_ret ?_
      obtain rfl := Option.some.inj hF
      exact fin _ _ hret
    replace hF := elim_l hF
    obtain ⟨rfl, ok, E, r47⟩ := hO
    refine b_hit ?_
    refine t_norm ?_
    refine wp_seq ?_
    refine c_region ?_
    refine l_val E ok (y_fieldAddr fo_25_2 rfl) rfl rfl fun a E => ?_
    refine l_val E ok (y_load one_23 rfl (Holds.own 0 rfl rfl)) rfl rfl fun a E => ?_
    refine l_val E ok (y_move rfl) rfl rfl fun a E => ?_
    obtain ⟨x48, e49, hF⟩ := bnd hF
    obtain ⟨b50, o51, es52, hl53, rr54, at55, yy56⟩ := idxAt sl_23 h5 e49 (P := Try.prog) (X := .tmp 34) (I := .tmp 35) (kd := .i64) (ev_of E rfl) (ev_of E rfl)
    obtain rfl := rr54
    refine l_val E ok (yy56 _ _) rfl rfl fun a E => ?_
    refine l_val E ok (y_load one_4 rfl (Holds.ro at55)) rfl rfl fun a E => ?_
    refine l_val E ok (y_assign rfl) rfl rfl fun a E => ?_
    refine wpList_nil ?_
    refine t_norm ?_
    refine wp_ret ?_
    have hret : calqueref09_Run_R u m0 S x48 a w := ⟨ok.drop, E.d, ⟨rv_t E rfl, trivial⟩⟩
    obtain rfl := Option.some.inj hF
    exact fin _ _ hret
  rintro ⟨s_15, i_16⟩ a w r ⟨ok, E, r17, r18⟩ hF
  replace hF : calqueref09_Run_b1 N d_0 word_1 s_15 i_16 = some r := hF
  unfold calqueref09_Run_b1 at hF
  refine wp_seq ?_
  refine wp_seq ?_
  refine c_region ?_
  refine l_val E ok (y_move rfl) rfl rfl fun a E => ?_
  refine l_val E ok (y_move rfl) rfl rfl fun a E => ?_
  refine l_val E ok (y_slen Try.underlying9 rfl) rfl rfl fun a E => ?_
  refine l_val E ok (y_lss rfl rfl) rfl rfl fun a E => ?_
  refine wpList_nil ?_
  refine t_norm ?_
  refine c_if E rfl (fun hc19 => ?_) (fun hc19 => ?_)
  rotate_left
  · replace hF := cond_f hc19 hF
    refine wp_exit ?_
    refine t_exit ?_
    obtain rfl := Option.some.inj hF
    exact step_o (by nofun) (sl ⟨rfl, ⟨ok, E.keep [2, 5], r17⟩⟩)
  replace hF := cond_t hc19 hF
  refine wp_skip ?_
  refine t_norm ?_
  refine wp_seq ?_
  refine wp_block ?_
  refine wp_seq ?_
  refine c_region ?_
  refine l_val E ok (y_move rfl) rfl rfl fun a E => ?_
  refine l_val E ok (y_move rfl) rfl rfl fun a E => ?_
  obtain ⟨c20, e21, hF⟩ := bnd hF
  refine l_val E ok (y_index Try.underlying9 rfl rfl e21) rfl rfl fun a E => ?_
  obtain ⟨r22, e23, hF⟩ := bnd hF
  refine l_call E go_35 rfl (calqueref09_Symbol_w N (c20.toNat : Int) (InR.byte c20) e23 ok) rfl rfl ?_
  rintro _ w ⟨⟨rfl, ok⟩, r24⟩
  refine ⟨_, rfl, fun a E => ?_⟩
  refine l_val E ok (y_assign rfl) rfl rfl fun a E => ?_
  refine wpList_nil ?_
  refine t_norm ?_
  refine wp_seq ?_
  refine wp_seq ?_
  refine c_region ?_
  refine l_val E ok (y_move rfl) rfl rfl fun a E => ?_
  refine l_val E ok (y_lss rfl rfl) rfl rfl fun a E => ?_
  refine wpList_nil ?_
  refine t_norm ?_
  refine c_if E rfl (fun hc25 => ?_) (fun hc25 => ?_)
  · replace hF := cond_t hc25 hF
    refine wp_seq ?_
    refine c_region ?_
    refine l_val E ok (y_assign rfl) rfl rfl fun a E => ?_
    refine wpList_nil ?_
    refine t_norm ?_
    refine wp_ret ?_
    refine t_ret ?_
    refine b_ret ?_
    refine t_ret ?_
    have hret : calqueref09_Run_R u m0 S false a w := ⟨ok.drop, E.d, ⟨rv_t E rfl, trivial⟩⟩
    obtain rfl := Option.some.inj hF
    exact step_o (by nofun) (sr ⟨rfl, hret⟩)
  replace hF := cond_f hc25 hF
  refine wp_skip ?_
  refine t_norm ?_
  refine c_region ?_
  refine l_val E ok (y_fieldAddr fo_25_1 rfl) rfl rfl fun a E => ?_
  refine l_val E ok (y_load one_22 rfl (Holds.own 0 rfl rfl)) rfl rfl fun a E => ?_
  refine l_val E ok (y_move rfl) rfl rfl fun a E => ?_
  obtain ⟨x26, e27, hF⟩ := bnd hF
  obtain ⟨b28, o29, es30, hl31, rr32, at33, yy34⟩ := idxAt sl_22 h3 e27 (P := Try.prog) (X := .tmp 26) (I := .tmp 27) (kd := .i64) (ev_of E rfl) (ev_of E rfl)
  obtain ⟨c35, rfl, h36⟩ := pL_cell rr32
  refine l_val E ok (yy34 _ _) rfl rfl fun a E => ?_
  refine l_val E ok (y_load one_56 rfl (Holds.ro at33)) rfl rfl fun a E => ?_
  refine l_val E ok (y_move rfl) rfl rfl fun a E => ?_
  obtain ⟨x37, e38, hF⟩ := bnd hF
  obtain ⟨b39, o40, es41, hl42, rr43, at44, yy45⟩ := idxAt sl_56 h36 e38 (P := Try.prog) (X := .tmp 29) (I := .tmp 30) (kd := .i64) (ev_of E rfl) (ev_of E rfl)
  obtain ⟨rfl, r46⟩ := rr43
  refine l_val E ok (yy45 _ _) rfl rfl fun a E => ?_
  refine l_val E ok (y_load one_3 rfl (Holds.ro at44)) rfl rfl fun a E => ?_
  refine l_val E ok (y_assign rfl) rfl rfl fun a E => ?_
  refine wpList_nil ?_
  refine b_norm ?_
  refine t_norm ?_
  refine c_region ?_
  refine l_val E ok (y_move rfl) rfl rfl fun a E => ?_
  refine l_val E ok (y_add rfl rfl (InR.inc r18 (InR.len lword_1) hc19)) rfl rfl fun a E => ?_
  refine l_val E ok (y_assign rfl) rfl rfl fun a E => ?_
  refine wpList_nil ?_
  obtain rfl := Option.some.inj hF
  exact step_n ⟨ok, E.keep [1, 2, 5, 6], r46, (InR.inc r18 (InR.len lword_1) hc19)⟩

def calquelaw09_AutomatonRun_R (u : World) (m0 : Mem) (S : Segs) (r : Bool) (a : Act) (w : World) : Prop :=
  Ok u m0 S w ∧ a.defers = [] ∧ RVs Try.prog a w [.t 4 (.bool r)]
set_option maxHeartbeats 4000000 in
set_option maxRecDepth 100000 in
theorem calquelaw09_AutomatonRun_w {u : World} {m0 : Mem} {S : Segs} {w : World} (N : Nat) (vd_0 : List Value) (d_0 : DFA) (hd_0 : pDFA m0 vd_0 d_0) (word_1 : List UInt8) (lword_1 : word_1.length ≤ LIMS) {r : Bool} (hF : calquelaw09_AutomatonRun N d_0 word_1 = some r) (ok : Ok u m0 S w) :
    Calls Try.prog 3 [.agg vd_0.toArray, Value.string (bs word_1)].toArray w fun e w' => (e = .returned (.bool r) ∧ Ok u m0 S w') := by
  obtain ⟨c2, c4, rfl, r1, h3, h5⟩ := hd_0
  have le_m0 := Mem.le.refl m0
  unfold calquelaw09_AutomatonRun at hF
  have fin : ∀ a w, calquelaw09_AutomatonRun_R u m0 S r a w → bodyPost Try.prog Try.f3 (fun e w' => (e = .returned (.bool r) ∧ Ok u m0 S w')) .ret a w := by
    intro a w h
    obtain ⟨ok, hd, hrv⟩ := h
    exact c_ret2 [.t 4 (.bool r)] hd rfl hrv ⟨rfl, ok⟩
  refine enter Try.func3 rfl rfl rfl fun a E => ?_
  refine wp_seq ?_
  refine c_region ?_
  refine l_box E ok rfl rfl rfl fun b6 a w E ok => ?_
  refine l_val E ok (y_assign rfl) rfl rfl fun a E => ?_
  refine wpList_nil ?_
  refine t_norm ?_
  refine wp_seq ?_
  refine wp_seq ?_
  refine c_region ?_
  obtain ⟨r7, e8, hF⟩ := bnd hF
  refine l_call E go_11 rfl (calquelaw09_awake_w N  e8 ok) rfl rfl ?_
  rintro _ w ⟨rfl, ok⟩
  refine ⟨_, rfl, fun a E => ?_⟩
  refine l_val E ok (y_not rfl) rfl rfl fun a E => ?_
  refine l_val E ok (y_move rfl) rfl rfl fun a E => ?_
  refine bsplit (!r7) (fun hc9 => ?_) (fun hc9 => ?_)
  · replace hF := cond_t hc9 hF
    replace E := E.upd 7 hc9 rfl
    refine l_skip E rfl rfl fun a E => ?_
    refine l_skip E rfl rfl fun a E => ?_
    refine l_skip E rfl rfl fun a E => ?_
    refine l_val E ok (y_pickT rfl rfl) rfl rfl fun a E => ?_
    refine l_val E ok (y_move rfl) rfl rfl fun a E => ?_
    refine l_skip E rfl rfl fun a E => ?_
    refine l_skip E rfl rfl fun a E => ?_
    refine l_skip E rfl rfl fun a E => ?_
    refine l_val E ok (y_pickT rfl rfl) rfl rfl fun a E => ?_
    refine wpList_nil ?_
    refine t_norm ?_
    refine c_if E rfl (fun _ => ?_) (fun h => by cases h)
    refine wp_seq ?_
    refine c_region ?_
    obtain ⟨r10, e11, hF⟩ := bnd hF
    refine l_call E go_11 rfl (calquelaw09_awake_w N  e11 ok) rfl rfl ?_
    rintro _ w ⟨rfl, ok⟩
    refine ⟨_, rfl, fun a E => ?_⟩
    refine l_val E ok (y_assign rfl) rfl rfl fun a E => ?_
    refine wpList_nil ?_
    refine t_norm ?_
    refine wp_ret ?_
    refine t_ret ?_
    have hret : calquelaw09_AutomatonRun_R u m0 S r10 a w := ⟨ok.drop, E.d, ⟨rv_t E rfl, trivial⟩⟩
    obtain rfl := Option.some.inj hF
    exact fin _ _ hret
  replace hF := cond_f hc9 hF
  replace E := E.upd 7 hc9 rfl
  refine l_val E ok (y_loadAgg (cs := [(Value.int .i64 d_0.Start), c2, c4]) agg_25 rfl rfl (Holds.own 0 rfl rfl)) rfl rfl fun a E => ?_
  obtain ⟨r12, e13, hF⟩ := bnd hF
  refine l_call E go_12 rfl (calqueref09_Few_w N _ d_0 ⟨_, _, rfl, r1, h3, h5⟩ 40 (show InR .i64 (40) by decide) e13 ok) rfl rfl ?_
  rintro _ w ⟨rfl, ok⟩
  refine ⟨_, rfl, fun a E => ?_⟩
  refine l_val E ok (y_not rfl) rfl rfl fun a E => ?_
  refine l_val E ok (y_pickF rfl rfl) rfl rfl fun a E => ?_
  refine l_val E ok (y_move rfl) rfl rfl fun a E => ?_
  refine bsplit (!r12) (fun hc14 => ?_) (fun hc14 => ?_)
  · replace hF := cond_t hc14 hF
    replace E := E.upd 12 hc14 rfl
    refine l_skip E rfl rfl fun a E => ?_
    refine l_skip E rfl rfl fun a E => ?_
    refine l_skip E rfl rfl fun a E => ?_
    refine l_val E ok (y_pickT rfl rfl) rfl rfl fun a E => ?_
    refine wpList_nil ?_
    refine t_norm ?_
    refine c_if E rfl (fun _ => ?_) (fun h => by cases h)
    refine wp_seq ?_
    refine c_region ?_
    obtain ⟨r15, e16, hF⟩ := bnd hF
    refine l_call E go_11 rfl (calquelaw09_awake_w N  e16 ok) rfl rfl ?_
    rintro _ w ⟨rfl, ok⟩
    refine ⟨_, rfl, fun a E => ?_⟩
    refine l_val E ok (y_assign rfl) rfl rfl fun a E => ?_
    refine wpList_nil ?_
    refine t_norm ?_
    refine wp_ret ?_
    refine t_ret ?_
    have hret : calquelaw09_AutomatonRun_R u m0 S r15 a w := ⟨ok.drop, E.d, ⟨rv_t E rfl, trivial⟩⟩
    obtain rfl := Option.some.inj hF
    exact fin _ _ hret
  replace hF := cond_f hc14 hF
  replace E := E.upd 12 hc14 rfl
  refine l_val E ok (y_move rfl) rfl rfl fun a E => ?_
  refine l_val E ok (y_slen Try.underlying9 rfl) rfl rfl fun a E => ?_
  refine l_val E ok (y_gtr rfl rfl) rfl rfl fun a E => ?_
  refine l_val E ok (y_pickF rfl rfl) rfl rfl fun a E => ?_
  refine wpList_nil ?_
  refine t_norm ?_
  refine c_if E rfl (fun hc17 => ?_) (fun hc17 => ?_)
  · replace hF := cond_t hc17 hF
    refine wp_seq ?_
    refine c_region ?_
    obtain ⟨r18, e19, hF⟩ := bnd hF
    refine l_call E go_11 rfl (calquelaw09_awake_w N  e19 ok) rfl rfl ?_
    rintro _ w ⟨rfl, ok⟩
    refine ⟨_, rfl, fun a E => ?_⟩
    refine l_val E ok (y_assign rfl) rfl rfl fun a E => ?_
    refine wpList_nil ?_
    refine t_norm ?_
    refine wp_ret ?_
    refine t_ret ?_
    have hret : calquelaw09_AutomatonRun_R u m0 S r18 a w := ⟨ok.drop, E.d, ⟨rv_t E rfl, trivial⟩⟩
    obtain rfl := Option.some.inj hF
    exact fin _ _ hret
  replace hF := cond_f hc17 hF
  refine wp_skip ?_
  refine t_norm ?_
  refine wp_seq ?_
  refine c_draw (by kernel_rfl) (by kernel_rfl) ok ?_
  refine q_val E (y_loadAgg (cs := [(Value.int .i64 d_0.Start), c2, c4]) agg_25 rfl rfl (Holds.own 0 rfl rfl)) rfl rfl fun a E => ?_
  obtain ⟨r20, e21, hF⟩ := bnd hF
  refine q_call E go_14 rfl (fun w ok => (calquelaw09_to_w N _ d_0 ⟨_, _, rfl, r1, h3, h5⟩ e21 ok).mono (fun _ _ h => h)) rfl rfl fun a E => ?_
  obtain ⟨r22, e23, hF⟩ := bnd hF
  refine q_call E go_13 rfl (fun w ok => (automaton_Valid_w N _ d_0 ⟨_, _, rfl, r1, h3, h5⟩ e23 ok).mono (fun _ _ h => h)) rfl rfl fun a E => ?_
  refine q_val E (y_loadAgg (cs := [(Value.int .i64 d_0.Start), c2, c4]) agg_25 rfl rfl (Holds.own 0 rfl rfl)) rfl rfl fun a E => ?_
  obtain ⟨r24, e25, hF⟩ := bnd hF
  refine q_call E go_15 rfl (fun w ok => (calqueref09_Valid_w N _ d_0 ⟨_, _, rfl, r1, h3, h5⟩ e25 ok).mono (fun _ _ h => h)) rfl rfl fun a E => ?_
  refine q_val E (y_beql Try.underlying4 rfl rfl) rfl rfl fun a E => ?_
  refine q_val E (y_move rfl) rfl rfl fun a E => ?_
  refine bsplit (r22 == r24) (fun hc26 => ?_) (fun hc26 => ?_)
  rotate_left
  · replace hF := cond_f hc26 hF
    replace E := E.upd 24 hc26 rfl
    refine q_skip E rfl rfl fun a E => ?_
    refine q_skip E rfl rfl fun a E => ?_
    refine q_skip E rfl rfl fun a E => ?_
    refine q_skip E rfl rfl fun a E => ?_
    refine q_skip E rfl rfl fun a E => ?_
    refine q_skip E rfl rfl fun a E => ?_
    refine q_skip E rfl rfl fun a E => ?_
    refine q_skip E rfl rfl fun a E => ?_
    refine q_val E (y_pickF rfl rfl) rfl rfl fun a E => ?_
    refine q_val E (y_assign rfl) rfl rfl fun a E => ?_
    refine wpQuiet_nil ?_
    intro w ok
    refine t_norm ?_
    refine wp_ret ?_
    have hret : calquelaw09_AutomatonRun_R u m0 S false a w := ⟨ok.drop, E.d, ⟨rv_t E rfl, trivial⟩⟩
    obtain rfl := Option.some.inj hF
    exact fin _ _ hret
  replace hF := cond_t hc26 hF
  replace E := E.upd 24 hc26 rfl
  refine q_val E (y_loadAgg (cs := [(Value.int .i64 d_0.Start), c2, c4]) agg_25 rfl rfl (Holds.own 0 rfl rfl)) rfl rfl fun a E => ?_
  obtain ⟨r27, e28, hF⟩ := bnd hF
  refine q_call E go_14 rfl (fun w ok => (calquelaw09_to_w N _ d_0 ⟨_, _, rfl, r1, h3, h5⟩ e28 ok).mono (fun _ _ h => h)) rfl rfl fun a E => ?_
  refine q_val E (y_move rfl) rfl rfl fun a E => ?_
  obtain ⟨r29, e30, hF⟩ := bnd hF
  refine q_call E go_16 rfl (fun w ok => (automaton_Run_w N _ d_0 ⟨_, _, rfl, r1, h3, h5⟩ word_1 lword_1 e30 ok).mono (fun _ _ h => h)) rfl rfl fun a E => ?_
  refine q_val E (y_loadAgg (cs := [(Value.int .i64 d_0.Start), c2, c4]) agg_25 rfl rfl (Holds.own 0 rfl rfl)) rfl rfl fun a E => ?_
  refine q_val E (y_move rfl) rfl rfl fun a E => ?_
  obtain ⟨r31, e32, hF⟩ := bnd hF
  refine q_call E go_17 rfl (fun w ok => (calqueref09_Run_w N _ d_0 ⟨_, _, rfl, r1, h3, h5⟩ word_1 lword_1 e32 ok).mono (fun _ _ h => h)) rfl rfl fun a E => ?_
  refine q_val E (y_beql Try.underlying4 rfl rfl) rfl rfl fun a E => ?_
  refine q_val E (y_pickT rfl rfl) rfl rfl fun a E => ?_
  refine q_val E (y_assign rfl) rfl rfl fun a E => ?_
  refine wpQuiet_nil ?_
  intro w ok
  refine t_norm ?_
  refine wp_ret ?_
  have hret : calquelaw09_AutomatonRun_R u m0 S (r29 == r31) a w := ⟨ok.drop, E.d, ⟨rv_t E rfl, trivial⟩⟩
  obtain rfl := Option.some.inj hF
  exact fin _ _ hret

def calqueref09_index_R (u : World) (m0 : Mem) (S : Segs) (r : Int) (a : Act) (w : World) : Prop :=
  Ok u m0 S w ∧ a.defers = [] ∧ RVs Try.prog a w [.t 4 (.int .i64 r)] ∧ InR .i64 r
set_option maxHeartbeats 4000000 in
set_option maxRecDepth 100000 in
theorem calqueref09_index_w {u : World} {m0 : Mem} {S : Segs} {w : World} (N : Nat) (vl_0 : Value) (l_0 : List (Int)) (hl_0 : (pL 1 (pI .i64)) m0 [vl_0] l_0) (n_1 : Int) (rn_1 : InR .i64 n_1) {r : Int} (hF : calqueref09_index N l_0 n_1 = some r) (ok : Ok u m0 S w) :
    Calls Try.prog 39 [vl_0, Value.int .i64 n_1].toArray w fun e w' => (e = .returned (.int .i64 r) ∧ Ok u m0 S w') ∧ InR .i64 r := by
  have le_m0 := Mem.le.refl m0
  unfold calqueref09_index at hF
  have fin : ∀ a w, calqueref09_index_R u m0 S r a w → bodyPost Try.prog Try.f39 (fun e w' => (e = .returned (.int .i64 r) ∧ Ok u m0 S w') ∧ InR .i64 r) .ret a w := by
    intro a w h
    obtain ⟨ok, hd, hrv, h0⟩ := h
    exact c_ret2 [.t 4 (.int .i64 r)] hd rfl hrv ⟨⟨rfl, ok⟩, h0⟩
  refine enter Try.func39 rfl rfl rfl fun a E => ?_
  refine wp_seq ?_
  refine c_region ?_
  refine l_val E ok (y_assign rfl) rfl rfl fun a E => ?_
  refine wpList_nil ?_
  refine t_norm ?_
  refine wp_seq ?_
  refine wp_seq ?_
  refine c_region ?_
  refine l_val E ok (y_assign rfl) rfl rfl fun a E => ?_
  refine wpList_nil ?_
  refine t_norm ?_
  refine wp_block ?_
  obtain ⟨o2, hL, hF⟩ := bnd hF
  refine c_loop _ (fun (s : Int) a w => Ok u m0 (S) w ∧ Env 19 a [(0, vl_0), (1, (Value.int .i64 n_1)), (5, (Value.int .i64 s))] ∧ InR .i64 s) (fun (b : (Unit ⊕ Int)) e a w => (Sum.elim (fun b18 => e = (.exit 0) ∧ Ok u m0 (S) w ∧ Env 19 a []) (fun b19 => e = .ret ∧ calqueref09_index_R u m0 S b19 a w)) b) ?_ ?_ N _ a w hL ⟨ok, E.keep [0, 1, 5], (show InR .i64 (0) by decide)⟩
  rotate_left
  · intro e a w _ hO
    rcases o2 with o2 | o2
    rotate_left
    · replace hF := elim_r hF
      obtain ⟨rfl, hret⟩ := hO
      refine b_ret ?_
      refine t_ret ?_
      obtain rfl := Option.some.inj hF
      exact fin _ _ hret
    replace hF := elim_l hF
    obtain ⟨rfl, ok, E⟩ := hO
    refine b_hit ?_
    refine t_norm ?_
    refine wp_seq ?_
    refine c_region ?_
    refine l_val E ok (y_assign rfl) rfl rfl fun a E => ?_
    refine wpList_nil ?_
    refine t_norm ?_
    refine wp_ret ?_
    have hret : calqueref09_index_R u m0 S (-1) a w := ⟨ok, E.d, ⟨rv_t E rfl, trivial⟩, (show InR .i64 (-1) by decide)⟩
    obtain rfl := Option.some.inj hF
    exact fin _ _ hret
  rintro i_4 a w r ⟨ok, E, r5⟩ hF
  replace hF : calqueref09_index_b1 N l_0 n_1 i_4 = some r := hF
  unfold calqueref09_index_b1 at hF
  refine wp_seq ?_
  refine wp_seq ?_
  refine c_region ?_
  refine l_val E ok (y_move rfl) rfl rfl fun a E => ?_
  refine l_val E ok (y_move rfl) rfl rfl fun a E => ?_
  refine l_val E ok (y_lenL sl_56 hl_0 rfl) rfl rfl fun a E => ?_
  refine l_val E ok (y_lss rfl rfl) rfl rfl fun a E => ?_
  refine wpList_nil ?_
  refine t_norm ?_
  refine c_if E rfl (fun hc6 => ?_) (fun hc6 => ?_)
  rotate_left
  · replace hF := cond_f hc6 hF
    refine wp_exit ?_
    refine t_exit ?_
    obtain rfl := Option.some.inj hF
    exact step_o (by nofun) (sl ⟨rfl, ⟨ok, E.keep []⟩⟩)
  replace hF := cond_t hc6 hF
  refine wp_skip ?_
  refine t_norm ?_
  refine wp_seq ?_
  refine wp_block ?_
  refine wp_seq ?_
  refine c_region ?_
  refine l_val E ok (y_move rfl) rfl rfl fun a E => ?_
  refine l_val E ok (y_move rfl) rfl rfl fun a E => ?_
  obtain ⟨x7, e8, hF⟩ := bnd hF
  obtain ⟨b9, o10, es11, hl12, rr13, at14, yy15⟩ := idxAt sl_56 hl_0 e8 (P := Try.prog) (X := .tmp 12) (I := .tmp 13) (kd := .i64) (ev_of E rfl) (ev_of E rfl)
  obtain ⟨rfl, r16⟩ := rr13
  refine l_val E ok (yy15 _ _) rfl rfl fun a E => ?_
  refine l_val E ok (y_load one_3 rfl (Holds.ro at14)) rfl rfl fun a E => ?_
  refine l_val E ok (y_move rfl) rfl rfl fun a E => ?_
  refine l_val E ok (y_eql rfl rfl) rfl rfl fun a E => ?_
  refine wpList_nil ?_
  refine t_norm ?_
  refine c_if E rfl (fun hc17 => ?_) (fun hc17 => ?_)
  rotate_left
  · replace hF := cond_f hc17 hF
    refine wp_skip ?_
    refine b_norm ?_
    refine t_norm ?_
    refine c_region ?_
    refine l_val E ok (y_move rfl) rfl rfl fun a E => ?_
    refine l_val E ok (y_add rfl rfl (InR.inc r5 (pL_InR hl_0) hc6)) rfl rfl fun a E => ?_
    refine l_val E ok (y_assign rfl) rfl rfl fun a E => ?_
    refine wpList_nil ?_
    obtain rfl := Option.some.inj hF
    exact step_n ⟨ok, E.keep [0, 1, 5], (InR.inc r5 (pL_InR hl_0) hc6)⟩
  replace hF := cond_t hc17 hF
  refine wp_seq ?_
  refine c_region ?_
  refine l_val E ok (y_move rfl) rfl rfl fun a E => ?_
  refine l_val E ok (y_assign rfl) rfl rfl fun a E => ?_
  refine wpList_nil ?_
  refine t_norm ?_
  refine wp_ret ?_
  refine b_ret ?_
  refine t_ret ?_
  have hret : calqueref09_index_R u m0 S i_4 a w := ⟨ok, E.d, ⟨rv_t E rfl, trivial⟩, r5⟩
  obtain rfl := Option.some.inj hF
  exact step_o (by nofun) (sr ⟨rfl, hret⟩)

def calqueref09_Character_R (u : World) (m0 : Mem) (S : Segs) (r : (List UInt8)) (a : Act) (w : World) : Prop :=
  Ok u m0 S w ∧ a.defers = [] ∧ RVs Try.prog a w [.t 2 (.string (bs r))] ∧ r.length ≤ LIMS
set_option maxHeartbeats 4000000 in
set_option maxRecDepth 100000 in
theorem calqueref09_Character_w {u : World} {m0 : Mem} {S : Segs} {w : World} (N : Nat) (c_0 : Int) (rc_0 : InR .i64 c_0) {r : (List UInt8)} (hF : calqueref09_Character N c_0 = some r) (ok : Ok u m0 S w) :
    Calls Try.prog 40 [Value.int .i64 c_0].toArray w fun e w' => (e = .returned (.string (bs r)) ∧ Ok u m0 S w') ∧ r.length ≤ LIMS := by
  have le_m0 := Mem.le.refl m0
  unfold calqueref09_Character at hF
  have fin : ∀ a w, calqueref09_Character_R u m0 S r a w → bodyPost Try.prog Try.f40 (fun e w' => (e = .returned (.string (bs r)) ∧ Ok u m0 S w') ∧ r.length ≤ LIMS) .ret a w := by
    intro a w h
    obtain ⟨ok, hd, hrv, h0⟩ := h
    exact c_ret2 [.t 2 (.string (bs r))] hd rfl hrv ⟨⟨rfl, ok⟩, h0⟩
  refine enter Try.func40 rfl rfl rfl fun a E => ?_
  refine wp_seq ?_
  refine c_region ?_
  refine l_val E ok (y_assign rfl) rfl rfl fun a E => ?_
  refine wpList_nil ?_
  refine t_norm ?_
  refine wp_seq ?_
  refine c_region ?_
  refine l_val E ok (y_move rfl) rfl rfl fun a E => ?_
  refine l_val E ok (y_move rfl) rfl rfl fun a E => ?_
  refine l_val E ok (y_addw rfl rfl) rfl rfl fun a E => ?_
  obtain ⟨s1, e2, hF⟩ := bnd hF
  refine l_val E ok (y_sslice Try.underlying9 e2 rfl ⟨_, rfl⟩ ⟨_, rfl⟩) rfl rfl fun a E => ?_
  refine l_val E ok (y_assign rfl) rfl rfl fun a E => ?_
  refine wpList_nil ?_
  refine t_norm ?_
  refine wp_ret ?_
  have hret : calqueref09_Character_R u m0 S s1 a w := ⟨ok, E.d, ⟨rv_t E rfl, trivial⟩, (Nat.le_trans (slc_len e2) (by decide))⟩
  obtain rfl := Option.some.inj hF
  exact fin _ _ hret

def calqueref09_Shortest_R (u : World) (m0 : Mem) (S : Segs) (r : (List UInt8) × Bool × Int) (a : Act) (w : World) : Prop :=
  Ok u m0 S w ∧ a.defers = [] ∧ RVs Try.prog a w [.t 2 (.string (bs r.1)), .t 3 (.bool r.2.1), .t 4 (.int .i64 r.2.2)] ∧ r.1.length ≤ LIMS ∧ InR .i64 r.2.2
set_option maxHeartbeats 4000000 in
set_option maxRecDepth 100000 in
theorem calqueref09_Shortest_w {u : World} {m0 : Mem} {S : Segs} {w : World} (N : Nat) (vd_0 : List Value) (d_0 : DFA) (hd_0 : pDFA m0 vd_0 d_0) {r : (List UInt8) × Bool × Int} (hF : calqueref09_Shortest N d_0 = some r) (ok : Ok u m0 S w) :
    Calls Try.prog 19 [.agg vd_0.toArray].toArray w fun e w' => (e = .returned (.tuple [(.string (bs r.1)), (.bool r.2.1), (.int .i64 r.2.2)].toArray) ∧ Ok u m0 S w') ∧ r.1.length ≤ LIMS ∧ InR .i64 r.2.2 := by
  obtain ⟨c2, c4, rfl, r1, h3, h5⟩ := hd_0
  have le_m0 := Mem.le.refl m0
  unfold calqueref09_Shortest at hF
  have fin : ∀ a w, calqueref09_Shortest_R u m0 S r a w → bodyPost Try.prog Try.f19 (fun e w' => (e = .returned (.tuple [(.string (bs r.1)), (.bool r.2.1), (.int .i64 r.2.2)].toArray) ∧ Ok u m0 S w') ∧ r.1.length ≤ LIMS ∧ InR .i64 r.2.2) .ret a w := by
    intro a w h
    obtain ⟨ok, hd, hrv, h0, h1⟩ := h
    exact c_ret2 [.t 2 (.string (bs r.1)), .t 3 (.bool r.2.1), .t 4 (.int .i64 r.2.2)] hd rfl hrv ⟨⟨rfl, ok⟩, h0, h1⟩
  refine enter Try.func19 rfl rfl rfl fun a E => ?_
  refine wp_seq ?_
  refine c_region ?_
  refine l_box E ok rfl rfl rfl fun b6 a w E ok => ?_
  refine l_val E ok (y_assign rfl) rfl rfl fun a E => ?_
  refine l_val E ok (y_assign rfl) rfl rfl fun a E => ?_
  refine l_val E ok (y_assign rfl) rfl rfl fun a E => ?_
  refine wpList_nil ?_
  refine t_norm ?_
  refine wp_seq ?_
  refine wp_seq ?_
  refine c_region ?_
  refine l_val E ok (y_loadAgg (cs := [(Value.int .i64 d_0.Start), c2, c4]) agg_25 rfl rfl (Holds.own 0 rfl rfl)) rfl rfl fun a E => ?_
  obtain ⟨r7, e8, hF⟩ := bnd hF
  refine l_call E go_15 rfl (calqueref09_Valid_w N _ d_0 ⟨_, _, rfl, r1, h3, h5⟩ e8 ok) rfl rfl ?_
  rintro _ w ⟨rfl, ok⟩
  refine ⟨_, rfl, fun a E => ?_⟩
  refine l_val E ok (y_not rfl) rfl rfl fun a E => ?_
  refine wpList_nil ?_
  refine t_norm ?_
  refine c_if E rfl (fun hc9 => ?_) (fun hc9 => ?_)
  · replace hF := cond_t hc9 hF
    refine wp_seq ?_
    refine c_region ?_
    refine l_val E ok (y_assign rfl) rfl rfl fun a E => ?_
    refine l_val E ok (y_assign rfl) rfl rfl fun a E => ?_
    refine l_val E ok (y_assign rfl) rfl rfl fun a E => ?_
    refine wpList_nil ?_
    refine t_norm ?_
    refine wp_ret ?_
    refine t_ret ?_
    have hret : calqueref09_Shortest_R u m0 S ([], false, 1) a w := ⟨ok.drop, E.d, ⟨rv_t E rfl, rv_t E rfl, rv_t E rfl, trivial⟩, (by decide), (show InR .i64 (1) by decide)⟩
    obtain rfl := Option.some.inj hF
    exact fin _ _ hret
  replace hF := cond_f hc9 hF
  refine wp_skip ?_
  refine t_norm ?_
  refine wp_seq ?_
  refine c_region ?_
  refine l_val E ok (y_fieldAddr fo_25_0 rfl) rfl rfl fun a E => ?_
  refine l_val E ok (y_load one_3 rfl (Holds.own 0 rfl rfl)) rfl rfl fun a E => ?_
  refine l_slit (R := (pI .i64)) (xo := [.tmp 14]) (xs := ([d_0.Start] : List (Int))) E ok sl_56 zero_3 rfl ⟨⟨_, rfl, rfl, (pI_mk r1)⟩, trivial⟩ rfl rfl rfl rfl fun c10 M11 a w E ok h12 => ?_
  refine l_slit (R := pS) (xo := [.const (Value.string (bs ([])))]) (xs := ([[]] : List (List UInt8))) E ok sl_62 zero_9 rfl ⟨⟨_, rfl, rfl, (pS_mk (by decide))⟩, trivial⟩ rfl rfl rfl rfl fun c13 M14 a w E ok h15 => ?_
  refine l_val E ok (y_assign rfl) rfl rfl fun a E => ?_
  refine l_val E ok (y_assign rfl) rfl rfl fun a E => ?_
  refine wpList_nil ?_
  refine t_norm ?_
  refine wp_seq ?_
  refine wp_seq ?_
  refine c_region ?_
  refine l_val E ok (y_assign rfl) rfl rfl fun a E => ?_
  refine wpList_nil ?_
  refine t_norm ?_
  refine wp_block ?_
  obtain ⟨o23, hL, hF⟩ := bnd hF
  refine c_loop _ (fun (s : (List (Int)) × (List (List UInt8)) × Int) a w => ∃ c24 M25 c27 M28, Ok u m0 (M28 :: M25 :: [(b6, Obj.cells [(Value.int .i64 d_0.Start), c2, c4].toArray 25 (0, 0))] :: S) w ∧ Env 68 a [(1, (Value.pointer (some ⟨b6, 0, none⟩))), (5, c24), (6, c27), (7, (Value.int .i64 s.2.2))] ∧ ORow 3 1 (pI .i64) m0 c24 s.1 M25 ∧ ORow 9 1 pS m0 c27 s.2.1 M28 ∧ InR .i64 s.2.2) (fun (b : (Unit ⊕ ((List UInt8) × Bool × Int))) e a w => (Sum.elim (fun b290 => e = (.exit 0) ∧ Ok u m0 ([(b6, Obj.cells [(Value.int .i64 d_0.Start), c2, c4].toArray 25 (0, 0))] :: S) w ∧ Env 68 a []) (fun b291 => e = .ret ∧ calqueref09_Shortest_R u m0 S b291 a w)) b) ?_ ?_ N _ a w hL ⟨c10, M11, c13, M14, ok, E.keep [1, 5, 6, 7], h12, h15, (show InR .i64 (0) by decide)⟩
  rotate_left
  · intro e a w _ hO
    rcases o23 with o23 | o23
    rotate_left
    · replace hF := elim_r hF
      obtain ⟨rfl, hret⟩ := hO
      refine b_ret ?_
      refine t_ret ?_
      obtain rfl := Option.some.inj hF
      exact fin _ _ hret
    replace hF := elim_l hF
    obtain ⟨rfl, ok, E⟩ := hO
    refine b_hit ?_
    refine t_norm ?_
    refine wp_seq ?_
    refine c_region ?_
    refine l_val E ok (y_assign rfl) rfl rfl fun a E => ?_
    refine l_val E ok (y_assign rfl) rfl rfl fun a E => ?_
    refine l_val E ok (y_assign rfl) rfl rfl fun a E => ?_
    refine wpList_nil ?_
    refine t_norm ?_
    refine wp_ret ?_
    have hret : calqueref09_Shortest_R u m0 S ([], false, 0) a w := ⟨ok.drop, E.d, ⟨rv_t E rfl, rv_t E rfl, rv_t E rfl, trivial⟩, (by decide), (show InR .i64 (0) by decide)⟩
    obtain rfl := Option.some.inj hF
    exact fin _ _ hret
  rintro ⟨found_31, words_32, i_33⟩ a w r ⟨c34, M35, c37, M38, ok, E, h36, h39, r40⟩ hF
  replace hF : calqueref09_Shortest_b1 N d_0 found_31 words_32 i_33 = some r := hF
  unfold calqueref09_Shortest_b1 at hF
  refine wp_seq ?_
  refine wp_seq ?_
  refine c_region ?_
  refine l_val E ok (y_move rfl) rfl rfl fun a E => ?_
  refine l_val E ok (y_move rfl) rfl rfl fun a E => ?_
  refine l_val E ok (y_lenR sl_56 h36 rfl) rfl rfl fun a E => ?_
  refine l_val E ok (y_lss rfl rfl) rfl rfl fun a E => ?_
  refine wpList_nil ?_
  refine t_norm ?_
  refine c_if E rfl (fun hc41 => ?_) (fun hc41 => ?_)
  rotate_left
  · replace hF := cond_f hc41 hF
    refine wp_exit ?_
    refine t_exit ?_
    obtain rfl := Option.some.inj hF
    exact step_o (by nofun) (sl ⟨rfl, ⟨(ok.pk 3 [2] rfl (by decide)), E.keep []⟩⟩)
  replace hF := cond_t hc41 hF
  refine wp_skip ?_
  refine t_norm ?_
  refine wp_seq ?_
  refine wp_block ?_
  refine wp_seq ?_
  refine wp_seq ?_
  refine c_draw (by kernel_rfl) (by kernel_rfl) ok ?_
  refine q_val E (y_fieldAddr fo_25_2 rfl) rfl rfl fun a E => ?_
  refine q_val E (y_load one_23 rfl (Holds.own 2 rfl rfl)) rfl rfl fun a E => ?_
  refine q_val E (y_move rfl) rfl rfl fun a E => ?_
  refine q_val E (y_move rfl) rfl rfl fun a E => ?_
  obtain ⟨x42, e43, hF⟩ := bnd hF
  obtain ⟨b44, o45, hp46, yy47⟩ := orowAt sl_56 h36 e43 (P := Try.prog) (X := .tmp 25) (I := .tmp 26) (kd := .i64) (ev_of E rfl) (ev_of E rfl)
  refine q_val E (yy47 _ _) rfl rfl fun a E => ?_
  obtain ⟨es48, hl49, rr50, hh51⟩ := orowGet h36 e43 hp46 (by decide)
  obtain ⟨rfl, r52⟩ := rr50
  refine q_val E (y_load one_3 rfl (hh51 _ _ _ 1 rfl)) rfl rfl fun a E => ?_
  obtain ⟨x53, e54, hF⟩ := bnd hF
  obtain ⟨b55, o56, es57, hl58, rr59, at60, yy61⟩ := idxAt sl_23 h5 e54 (P := Try.prog) (X := .tmp 24) (I := .tmp 28) (kd := .i64) (ev_of E rfl) (ev_of E rfl)
  obtain rfl := rr59
  refine q_val E (yy61 _ _) rfl rfl fun a E => ?_
  refine q_val E (y_load one_4 rfl (Holds.ro at60)) rfl rfl fun a E => ?_
  refine wpQuiet_nil ?_
  intro w ok
  refine t_norm ?_
  refine c_if E rfl (fun hc62 => ?_) (fun hc62 => ?_)
  · replace hF := cond_t hc62 hF
    refine wp_seq ?_
    refine c_region ?_
    refine l_val E ok (y_move rfl) rfl rfl fun a E => ?_
    refine l_val E ok (y_move rfl) rfl rfl fun a E => ?_
    obtain ⟨x63, e64, hF⟩ := bnd hF
    obtain ⟨b65, o66, hp67, yy68⟩ := orowAt sl_62 h39 e64 (P := Try.prog) (X := .tmp 31) (I := .tmp 32) (kd := .i64) (ev_of E rfl) (ev_of E rfl)
    refine l_val E ok (yy68 _ _) rfl rfl fun a E => ?_
    obtain ⟨es69, hl70, rr71, hh72⟩ := orowGet h39 e64 hp67 (by decide)
    obtain ⟨rfl, l73⟩ := rr71
    refine l_val E ok (y_load one_9 rfl (hh72 _ _ _ 0 rfl)) rfl rfl fun a E => ?_
    refine l_val E ok (y_assign rfl) rfl rfl fun a E => ?_
    refine l_val E ok (y_assign rfl) rfl rfl fun a E => ?_
    refine l_val E ok (y_assign rfl) rfl rfl fun a E => ?_
    refine wpList_nil ?_
    refine t_norm ?_
    refine wp_ret ?_
    refine t_ret ?_
    refine b_ret ?_
    refine t_ret ?_
    have hret : calqueref09_Shortest_R u m0 S (x63, true, 0) a w := ⟨ok.drop.drop.drop, E.d, ⟨rv_t E rfl, rv_t E rfl, rv_t E rfl, trivial⟩, l73, (show InR .i64 (0) by decide)⟩
    obtain rfl := Option.some.inj hF
    exact step_o (by nofun) (sr ⟨rfl, hret⟩)
  replace hF := cond_f hc62 hF
  refine wp_skip ?_
  refine t_norm ?_
  refine wp_seq ?_
  refine c_region ?_
  refine l_val E ok (y_assign rfl) rfl rfl fun a E => ?_
  refine wpList_nil ?_
  refine t_norm ?_
  refine wp_block ?_
  obtain ⟨o81, hL, hF⟩ := bnd hF
  refine c_loop _ (fun (s : (List (Int)) × (List (List UInt8)) × Int) a w => ∃ c82 M83 c85 M86, Ok u m0 (M86 :: M83 :: [(b6, Obj.cells [(Value.int .i64 d_0.Start), c2, c4].toArray 25 (0, 0))] :: S) w ∧ Env 68 a [(1, (Value.pointer (some ⟨b6, 0, none⟩))), (5, c82), (6, c85), (7, (Value.int .i64 i_33)), (8, (Value.int .i64 s.2.2))] ∧ ORow 3 1 (pI .i64) m0 c82 s.1 M83 ∧ ORow 9 1 pS m0 c85 s.2.1 M86 ∧ InR .i64 s.2.2) (fun (b : ((List (Int)) × (List (List UInt8)))) e a w => e = (.exit 2) ∧ ∃ c284 M285 c287 M288, Ok u m0 (M288 :: M285 :: [(b6, Obj.cells [(Value.int .i64 d_0.Start), c2, c4].toArray 25 (0, 0))] :: S) w ∧ Env 68 a [(1, (Value.pointer (some ⟨b6, 0, none⟩))), (5, c284), (6, c287), (7, (Value.int .i64 i_33))] ∧ ORow 3 1 (pI .i64) m0 c284 b.1 M285 ∧ ORow 9 1 pS m0 c287 b.2 M288) ?_ ?_ N _ a w hL ⟨c34, M35, c37, M38, ok, E.keep [1, 5, 6, 7, 8], h36, h39, (show InR .i64 (0) by decide)⟩
  rotate_left
  · intro e a w _ hO
    obtain ⟨rfl, c278, M279, c281, M282, ok, E, h280, h283⟩ := hO
    refine b_hit ?_
    refine b_norm ?_
    refine t_norm ?_
    refine c_region ?_
    refine l_val E ok (y_move rfl) rfl rfl fun a E => ?_
    refine l_val E ok (y_add rfl rfl (InR.inc r40 (ORow.InR h36) hc41)) rfl rfl fun a E => ?_
    refine l_val E ok (y_assign rfl) rfl rfl fun a E => ?_
    refine wpList_nil ?_
    obtain rfl := Option.some.inj hF
    exact step_n ⟨c278, M279, c281, M282, ok, E.keep [1, 5, 6, 7], h280, h283, (InR.inc r40 (ORow.InR h36) hc41)⟩
  rintro ⟨found_89, words_90, c_91⟩ a w r ⟨c92, M93, c95, M96, ok, E, h94, h97, r98⟩ hF
  replace hF : calqueref09_Shortest_b2 N d_0 i_33 found_89 words_90 c_91 = some r := hF
  unfold calqueref09_Shortest_b2 at hF
  refine wp_seq ?_
  refine wp_seq ?_
  refine c_region ?_
  refine l_val E ok (y_move rfl) rfl rfl fun a E => ?_
  refine l_val E ok (y_lss rfl rfl) rfl rfl fun a E => ?_
  refine wpList_nil ?_
  refine t_norm ?_
  refine c_if E rfl (fun hc99 => ?_) (fun hc99 => ?_)
  rotate_left
  · replace hF := cond_f hc99 hF
    refine wp_exit ?_
    refine t_exit ?_
    obtain rfl := Option.some.inj hF
    exact step_o (by nofun) (⟨rfl, ⟨c92, M93, c95, M96, ok, E.keep [1, 5, 6, 7], h94, h97⟩⟩)
  replace hF := cond_t hc99 hF
  refine wp_skip ?_
  refine t_norm ?_
  refine wp_seq ?_
  refine wp_block ?_
  refine wp_seq ?_
  refine c_draw (by kernel_rfl) (by kernel_rfl) ok ?_
  refine q_val E (y_fieldAddr fo_25_1 rfl) rfl rfl fun a E => ?_
  refine q_val E (y_load one_22 rfl (Holds.own 2 rfl rfl)) rfl rfl fun a E => ?_
  refine q_val E (y_move rfl) rfl rfl fun a E => ?_
  refine q_val E (y_move rfl) rfl rfl fun a E => ?_
  obtain ⟨x100, e101, hF⟩ := bnd hF
  obtain ⟨b102, o103, hp104, yy105⟩ := orowAt sl_56 h94 e101 (P := Try.prog) (X := .tmp 41) (I := .tmp 42) (kd := .i64) (ev_of E rfl) (ev_of E rfl)
  refine q_val E (yy105 _ _) rfl rfl fun a E => ?_
  obtain ⟨es106, hl107, rr108, hh109⟩ := orowGet h94 e101 hp104 (by decide)
  obtain ⟨rfl, r110⟩ := rr108
  refine q_val E (y_load one_3 rfl (hh109 _ _ _ 1 rfl)) rfl rfl fun a E => ?_
  obtain ⟨x111, e112, hF⟩ := bnd hF
  obtain ⟨b113, o114, es115, hl116, rr117, at118, yy119⟩ := idxAt sl_22 h3 e112 (P := Try.prog) (X := .tmp 40) (I := .tmp 44) (kd := .i64) (ev_of E rfl) (ev_of E rfl)
  obtain ⟨c120, rfl, h121⟩ := pL_cell rr117
  refine q_val E (yy119 _ _) rfl rfl fun a E => ?_
  refine q_val E (y_load one_56 rfl (Holds.ro at118)) rfl rfl fun a E => ?_
  refine q_val E (y_move rfl) rfl rfl fun a E => ?_
  obtain ⟨x122, e123, hF⟩ := bnd hF
  obtain ⟨b124, o125, es126, hl127, rr128, at129, yy130⟩ := idxAt sl_56 h121 e123 (P := Try.prog) (X := .tmp 46) (I := .tmp 47) (kd := .i64) (ev_of E rfl) (ev_of E rfl)
  obtain ⟨rfl, r131⟩ := rr128
  refine q_val E (yy130 _ _) rfl rfl fun a E => ?_
  refine q_val E (y_load one_3 rfl (Holds.ro at129)) rfl rfl fun a E => ?_
  refine q_val E (y_assign rfl) rfl rfl fun a E => ?_
  refine wpQuiet_nil ?_
  intro w ok
  refine t_norm ?_
  refine wp_seq ?_
  refine c_region ?_
  refine l_val E ok (y_move rfl) rfl rfl fun a E => ?_
  refine l_val E ok (y_move rfl) rfl rfl fun a E => ?_
  obtain ⟨r137, e138, hF⟩ := bnd hF
  obtain ⟨m132, hle134, ok133, hfz135⟩ := (ok.frs 1 rfl).freeze
  have h136 := ORow.froz (mI .i64) h94 hle134 hfz135 (by decide)
  refine l_call E go_39 rfl (calqueref09_index_w N _ found_89 h136 x122 r131 e138 ok133) rfl rfl ?_
  rintro _ w ⟨⟨rfl, okz⟩, r139⟩
  replace ok := (Ok.thawAt 1 rfl ok hle134 hfz135 okz)
  refine ⟨_, rfl, fun a E => ?_⟩
  refine l_val E ok (y_lss rfl rfl) rfl rfl fun a E => ?_
  refine wpList_nil ?_
  refine t_norm ?_
  refine c_if E rfl (fun hc140 => ?_) (fun hc140 => ?_)
  rotate_left
  · replace hF := cond_f hc140 hF
    refine wp_skip ?_
    refine b_norm ?_
    refine t_norm ?_
    refine c_region ?_
    refine l_val E ok (y_move rfl) rfl rfl fun a E => ?_
    refine l_val E ok (y_add rfl rfl (InR.inc r98 (show InR .i64 (11) by decide) hc99)) rfl rfl fun a E => ?_
    refine l_val E ok (y_assign rfl) rfl rfl fun a E => ?_
    refine wpList_nil ?_
    obtain rfl := Option.some.inj hF
    exact step_n ⟨c92, M93, c95, M96, ok, E.keep [1, 5, 6, 7, 8], h94, h97, (InR.inc r98 (show InR .i64 (11) by decide) hc99)⟩
  replace hF := cond_t hc140 hF
  obtain ⟨o141, hJ, hF⟩ := bnd hF
  refine c_mono (Q' := fun e a w => e = .normal ∧ ∃ c142 M143 c145 M146, Ok u m0 (M146 :: M143 :: [(b6, Obj.cells [(Value.int .i64 d_0.Start), c2, c4].toArray 25 (0, 0))] :: S) w ∧ Env 68 a [(1, (Value.pointer (some ⟨b6, 0, none⟩))), (5, c142), (6, c145), (7, (Value.int .i64 i_33)), (8, (Value.int .i64 c_91))] ∧ ORow 3 1 (pI .i64) m0 c142 o141.1 M143 ∧ ORow 9 1 pS m0 c145 o141.2 M146) ?_ ?_
  rotate_left
  · clear hJ
    intro e a w hO
    obtain ⟨rfl, c272, M273, c275, M276, ok, E, h274, h277⟩ := hO
    refine b_norm ?_
    refine t_norm ?_
    refine c_region ?_
    refine l_val E ok (y_move rfl) rfl rfl fun a E => ?_
    refine l_val E ok (y_add rfl rfl (InR.inc r98 (show InR .i64 (11) by decide) hc99)) rfl rfl fun a E => ?_
    refine l_val E ok (y_assign rfl) rfl rfl fun a E => ?_
    refine wpList_nil ?_
    obtain rfl := Option.some.inj hF
    exact step_n ⟨c272, M273, c275, M276, ok, E.keep [1, 5, 6, 7, 8], h274, h277, (InR.inc r98 (show InR .i64 (11) by decide) hc99)⟩
  replace hF := hJ
  clear hJ
  obtain ⟨l151, e152, hF⟩ := bnd hF
  obtain ⟨x156, e157, hF⟩ := bnd hF
  obtain ⟨r167, e168, hF⟩ := bnd hF
  obtain ⟨s170, e171, hF⟩ := bnd hF
  obtain ⟨l175, e176, hF⟩ := bnd hF
  obtain rfl := Option.some.inj hF
  refine k_begin [] (Cls u m0 ([(b6, Obj.cells [(Value.int .i64 d_0.Start), c2, c4].toArray 25 (0, 0))] :: [])) (Cls u m0 ([(b6, Obj.cells [(Value.int .i64 d_0.Start), c2, c4].toArray 25 (0, 0))] :: [])) (by kernel_rfl) ?_
  intro w hw
  replace ok := okdrew ok hw
  clear hw
  refine k_next (cl1 ⟨m0, _, le_m0, ok, ⟨memAt 2 rfl, trivial⟩⟩ ⟨m0, _, le_m0, ok, ⟨memAt 2 rfl, trivial⟩⟩) fun hT => ?_
  refine k_take 0 E rfl (by kernel_rfl) nP hT (y_move rfl) rfl rfl fun a E => ?_
  refine k_take 1 E rfl (by kernel_rfl) nP hT (y_move rfl) rfl rfl fun a E => ?_
  refine k_take 4 E rfl (by kernel_rfl) nP hT (y_move rfl) rfl rfl fun a E => ?_
  refine k_take 5 E rfl (by kernel_rfl) nP hT (y_move rfl) rfl rfl fun a E => ?_
  refine k_take 6 E rfl (by kernel_rfl) nP hT (y_move rfl) rfl rfl fun a E => ?_
  obtain ⟨b180, o181, hp182, yy183⟩ := orowAt sl_62 h97 e157 (P := Try.prog) (X := .tmp 59) (I := .tmp 60) (kd := .i64) (ev_of E rfl) (ev_of E rfl)
  refine k_take 7 E rfl (by kernel_rfl) nP hT (yy183 _ _) rfl rfl fun a E => ?_
  refine k_take 9 E rfl (by kernel_rfl) nP hT (y_move rfl) rfl rfl fun a E => ?_
  refine k_all [2, 8] (by kernel_rfl) rfl (all_c ?_ (all_c ?_ (all_n)))
  rotate_left
  · refine wpOp_of_list (o := _) rfl ?_
    obtain ⟨es254, hl255, rr256, hh257⟩ := orowGet h97 e157 hp182 (by decide)
    obtain ⟨rfl, l258⟩ := rr256
    refine l_val E ok (y_load one_9 rfl (hh257 _ _ _ 0 rfl)) rfl rfl fun a E => ?_
    refine wpList_nil ?_
    refine t_norm ?_
    refine k_next (cl1 ⟨m0, _, le_m0, ok, ⟨memAt 2 rfl, trivial⟩⟩ ⟨m0, _, le_m0, ok, ⟨memAt 2 rfl, trivial⟩⟩) fun hT => ?_
    refine k_all [2] (by kernel_rfl) rfl (one_c ?_)
    · refine wpOp_of_list (o := _) rfl ?_
      refine l_slit (R := (pI .i64)) (xo := [.tmp 55]) (xs := ([x122] : List (Int))) E ok sl_56 zero_3 rfl ⟨⟨_, rfl, rfl, (pI_mk r131)⟩, trivial⟩ rfl rfl rfl rfl fun c259 M260 a w E ok h261 => ?_
      refine wpList_nil ?_
      refine t_norm ?_
      refine k_next (cl1 ⟨m0, _, le_m0, ok, ⟨memAt 3 rfl, trivial⟩⟩ ⟨m0, _, le_m0, ok, ⟨memAt 3 rfl, trivial⟩⟩) fun hT => ?_
      refine k_all [3] (by kernel_rfl) rfl (one_c ?_)
      · refine wpOp_of_list (o := _) rfl ?_
        refine l_app (R := (pI .i64)) E ok 2 (mI .i64) sl_56 Try.underlying56 rfl h94 (SrcOK.ofRow h261 0 rfl ok) e152 ⟨_, zero_3, rfl⟩ rfl rfl rfl rfl fun c262 M263 a w E ok h264 => ?_
        refine wpList_nil ?_
        refine t_norm ?_
        refine k_next (cl1 ⟨m0, _, le_m0, ok, ⟨memAt 3 rfl, trivial⟩⟩ ⟨m0, _, le_m0, ok, ⟨memAt 3 rfl, trivial⟩⟩) fun hT => ?_
        refine k_all [10] (by kernel_rfl) rfl (one_c ?_)
        · refine wpOp_of_list (o := _) rfl ?_
          refine l_call E go_40 rfl (calqueref09_Character_w N c_91 r98 e168 ok) rfl rfl ?_
          rintro _ w ⟨⟨rfl, ok⟩, l265⟩
          refine ⟨_, rfl, fun a E => ?_⟩
          refine wpList_nil ?_
          refine t_norm ?_
          refine k_next (cl1 ⟨m0, _, le_m0, ok, ⟨memAt 3 rfl, trivial⟩⟩ ⟨m0, _, le_m0, ok, ⟨memAt 3 rfl, trivial⟩⟩) fun hT => ?_
          refine k_take 11 E rfl (by kernel_rfl) nP hT (y_cat rfl rfl e171) rfl rfl fun a E => ?_
          refine k_all [12] (by kernel_rfl) rfl (one_c ?_)
          · refine wpOp_of_list (o := _) rfl ?_
            refine l_slit (R := pS) (xo := [.tmp 65]) (xs := ([s170] : List (List UInt8))) E ok sl_62 zero_9 rfl ⟨⟨_, rfl, rfl, (pS_mk (cat_len e171))⟩, trivial⟩ rfl rfl rfl rfl fun c266 M267 a w E ok h268 => ?_
            refine wpList_nil ?_
            refine t_norm ?_
            refine k_next (cl1 ⟨m0, _, le_m0, ok, ⟨memAt 4 rfl, trivial⟩⟩ ⟨m0, _, le_m0, ok, ⟨memAt 4 rfl, trivial⟩⟩) fun hT => ?_
            refine k_all [13] (by kernel_rfl) rfl (one_c ?_)
            · refine wpOp_of_list (o := _) rfl ?_
              refine l_app (R := pS) E ok 2 mS sl_62 Try.underlying62 rfl h97 (SrcOK.ofRow h268 0 rfl ok) e176 ⟨_, zero_9, rfl⟩ rfl rfl rfl rfl fun c269 M270 a w E ok h271 => ?_
              refine wpList_nil ?_
              refine t_norm ?_
              refine k_next (cl1 ⟨m0, _, le_m0, ok, ⟨memAt 4 rfl, trivial⟩⟩ ⟨m0, _, le_m0, ok, ⟨memAt 4 rfl, trivial⟩⟩) fun hT => ?_
              refine k_take 14 E rfl (by kernel_rfl) nP hT (y_assign rfl) rfl rfl fun a E => ?_
              refine k_take 15 E rfl (by kernel_rfl) nP hT (y_assign rfl) rfl rfl fun a E => ?_
              refine k_done (by kernel_rfl) ?_
              exact ⟨rfl, ⟨c262, M263, c269, M270, (ok.pk 5 [2, 3, 4] rfl (by decide)), E.keep [1, 5, 6, 7, 8], h264, h271⟩⟩
  refine wpOp_of_list (o := _) rfl ?_
  refine l_slit (R := (pI .i64)) (xo := [.tmp 55]) (xs := ([x122] : List (Int))) E ok sl_56 zero_3 rfl ⟨⟨_, rfl, rfl, (pI_mk r131)⟩, trivial⟩ rfl rfl rfl rfl fun c194 M195 a w E ok h196 => ?_
  refine wpList_nil ?_
  refine t_norm ?_
  refine k_next (cl1 ⟨m0, _, le_m0, ok, ⟨memAt 3 rfl, trivial⟩⟩ ⟨m0, _, le_m0, ok, ⟨memAt 3 rfl, trivial⟩⟩) fun hT => ?_
  refine k_all [3, 8] (by kernel_rfl) rfl (all_c ?_ (all_c ?_ (all_n)))
  rotate_left
  · refine wpOp_of_list (o := _) rfl ?_
    obtain ⟨es239, hl240, rr241, hh242⟩ := orowGet h97 e157 hp182 (by decide)
    obtain ⟨rfl, l243⟩ := rr241
    refine l_val E ok (y_load one_9 rfl (hh242 _ _ _ 1 rfl)) rfl rfl fun a E => ?_
    refine wpList_nil ?_
    refine t_norm ?_
    refine k_next (cl1 ⟨m0, _, le_m0, ok, ⟨memAt 3 rfl, trivial⟩⟩ ⟨m0, _, le_m0, ok, ⟨memAt 3 rfl, trivial⟩⟩) fun hT => ?_
    refine k_all [3] (by kernel_rfl) rfl (one_c ?_)
    · refine wpOp_of_list (o := _) rfl ?_
      refine l_app (R := (pI .i64)) E ok 2 (mI .i64) sl_56 Try.underlying56 rfl h94 (SrcOK.ofRow h196 0 rfl ok) e152 ⟨_, zero_3, rfl⟩ rfl rfl rfl rfl fun c244 M245 a w E ok h246 => ?_
      refine wpList_nil ?_
      refine t_norm ?_
      refine k_next (cl1 ⟨m0, _, le_m0, ok, ⟨memAt 3 rfl, trivial⟩⟩ ⟨m0, _, le_m0, ok, ⟨memAt 3 rfl, trivial⟩⟩) fun hT => ?_
      refine k_all [10] (by kernel_rfl) rfl (one_c ?_)
      · refine wpOp_of_list (o := _) rfl ?_
        refine l_call E go_40 rfl (calqueref09_Character_w N c_91 r98 e168 ok) rfl rfl ?_
        rintro _ w ⟨⟨rfl, ok⟩, l247⟩
        refine ⟨_, rfl, fun a E => ?_⟩
        refine wpList_nil ?_
        refine t_norm ?_
        refine k_next (cl1 ⟨m0, _, le_m0, ok, ⟨memAt 3 rfl, trivial⟩⟩ ⟨m0, _, le_m0, ok, ⟨memAt 3 rfl, trivial⟩⟩) fun hT => ?_
        refine k_take 11 E rfl (by kernel_rfl) nP hT (y_cat rfl rfl e171) rfl rfl fun a E => ?_
        refine k_all [12] (by kernel_rfl) rfl (one_c ?_)
        · refine wpOp_of_list (o := _) rfl ?_
          refine l_slit (R := pS) (xo := [.tmp 65]) (xs := ([s170] : List (List UInt8))) E ok sl_62 zero_9 rfl ⟨⟨_, rfl, rfl, (pS_mk (cat_len e171))⟩, trivial⟩ rfl rfl rfl rfl fun c248 M249 a w E ok h250 => ?_
          refine wpList_nil ?_
          refine t_norm ?_
          refine k_next (cl1 ⟨m0, _, le_m0, ok, ⟨memAt 4 rfl, trivial⟩⟩ ⟨m0, _, le_m0, ok, ⟨memAt 4 rfl, trivial⟩⟩) fun hT => ?_
          refine k_all [13] (by kernel_rfl) rfl (one_c ?_)
          · refine wpOp_of_list (o := _) rfl ?_
            refine l_app (R := pS) E ok 2 mS sl_62 Try.underlying62 rfl h97 (SrcOK.ofRow h250 0 rfl ok) e176 ⟨_, zero_9, rfl⟩ rfl rfl rfl rfl fun c251 M252 a w E ok h253 => ?_
            refine wpList_nil ?_
            refine t_norm ?_
            refine k_next (cl1 ⟨m0, _, le_m0, ok, ⟨memAt 4 rfl, trivial⟩⟩ ⟨m0, _, le_m0, ok, ⟨memAt 4 rfl, trivial⟩⟩) fun hT => ?_
            refine k_take 14 E rfl (by kernel_rfl) nP hT (y_assign rfl) rfl rfl fun a E => ?_
            refine k_take 15 E rfl (by kernel_rfl) nP hT (y_assign rfl) rfl rfl fun a E => ?_
            refine k_done (by kernel_rfl) ?_
            exact ⟨rfl, ⟨c244, M245, c251, M252, (ok.pk 5 [2, 3, 4] rfl (by decide)), E.keep [1, 5, 6, 7, 8], h246, h253⟩⟩
  refine wpOp_of_list (o := _) rfl ?_
  refine l_app (R := (pI .i64)) E ok 2 (mI .i64) sl_56 Try.underlying56 rfl h94 (SrcOK.ofRow h196 0 rfl ok) e152 ⟨_, zero_3, rfl⟩ rfl rfl rfl rfl fun c202 M203 a w E ok h204 => ?_
  refine wpList_nil ?_
  refine t_norm ?_
  refine k_next (cl1 ⟨m0, _, le_m0, ok, ⟨memAt 3 rfl, trivial⟩⟩ ⟨m0, _, le_m0, ok, ⟨memAt 3 rfl, trivial⟩⟩) fun hT => ?_
  refine k_all [8, 10] (by kernel_rfl) rfl (all_c ?_ (all_c ?_ (all_n)))
  · refine wpOp_of_list (o := _) rfl ?_
    obtain ⟨es210, hl211, rr212, hh213⟩ := orowGet h97 e157 hp182 (by decide)
    obtain ⟨rfl, l214⟩ := rr212
    refine l_val E ok (y_load one_9 rfl (hh213 _ _ _ 1 rfl)) rfl rfl fun a E => ?_
    refine wpList_nil ?_
    refine t_norm ?_
    refine k_next (cl1 ⟨m0, _, le_m0, ok, ⟨memAt 3 rfl, trivial⟩⟩ ⟨m0, _, le_m0, ok, ⟨memAt 3 rfl, trivial⟩⟩) fun hT => ?_
    refine k_all [10] (by kernel_rfl) rfl (one_c ?_)
    · refine wpOp_of_list (o := _) rfl ?_
      refine l_call E go_40 rfl (calqueref09_Character_w N c_91 r98 e168 ok) rfl rfl ?_
      rintro _ w ⟨⟨rfl, ok⟩, l215⟩
      refine ⟨_, rfl, fun a E => ?_⟩
      refine wpList_nil ?_
      refine t_norm ?_
      refine k_next (cl1 ⟨m0, _, le_m0, ok, ⟨memAt 3 rfl, trivial⟩⟩ ⟨m0, _, le_m0, ok, ⟨memAt 3 rfl, trivial⟩⟩) fun hT => ?_
      refine k_take 11 E rfl (by kernel_rfl) nP hT (y_cat rfl rfl e171) rfl rfl fun a E => ?_
      refine k_all [12] (by kernel_rfl) rfl (one_c ?_)
      · refine wpOp_of_list (o := _) rfl ?_
        refine l_slit (R := pS) (xo := [.tmp 65]) (xs := ([s170] : List (List UInt8))) E ok sl_62 zero_9 rfl ⟨⟨_, rfl, rfl, (pS_mk (cat_len e171))⟩, trivial⟩ rfl rfl rfl rfl fun c216 M217 a w E ok h218 => ?_
        refine wpList_nil ?_
        refine t_norm ?_
        refine k_next (cl1 ⟨m0, _, le_m0, ok, ⟨memAt 4 rfl, trivial⟩⟩ ⟨m0, _, le_m0, ok, ⟨memAt 4 rfl, trivial⟩⟩) fun hT => ?_
        refine k_all [13] (by kernel_rfl) rfl (one_c ?_)
        · refine wpOp_of_list (o := _) rfl ?_
          refine l_app (R := pS) E ok 2 mS sl_62 Try.underlying62 rfl h97 (SrcOK.ofRow h218 0 rfl ok) e176 ⟨_, zero_9, rfl⟩ rfl rfl rfl rfl fun c219 M220 a w E ok h221 => ?_
          refine wpList_nil ?_
          refine t_norm ?_
          refine k_next (cl1 ⟨m0, _, le_m0, ok, ⟨memAt 4 rfl, trivial⟩⟩ ⟨m0, _, le_m0, ok, ⟨memAt 4 rfl, trivial⟩⟩) fun hT => ?_
          refine k_take 14 E rfl (by kernel_rfl) nP hT (y_assign rfl) rfl rfl fun a E => ?_
          refine k_take 15 E rfl (by kernel_rfl) nP hT (y_assign rfl) rfl rfl fun a E => ?_
          refine k_done (by kernel_rfl) ?_
          exact ⟨rfl, ⟨c202, M203, c219, M220, (ok.pk 5 [2, 3, 4] rfl (by decide)), E.keep [1, 5, 6, 7, 8], h204, h221⟩⟩
  refine wpOp_of_list (o := _) rfl ?_
  refine l_call E go_40 rfl (calqueref09_Character_w N c_91 r98 e168 ok) rfl rfl ?_
  rintro _ w ⟨⟨rfl, ok⟩, l222⟩
  refine ⟨_, rfl, fun a E => ?_⟩
  refine wpList_nil ?_
  refine t_norm ?_
  refine k_next (cl1 ⟨m0, _, le_m0, ok, ⟨memAt 3 rfl, trivial⟩⟩ ⟨m0, _, le_m0, ok, ⟨memAt 3 rfl, trivial⟩⟩) fun hT => ?_
  refine k_all [8] (by kernel_rfl) rfl (one_c ?_)
  · refine wpOp_of_list (o := _) rfl ?_
    obtain ⟨es228, hl229, rr230, hh231⟩ := orowGet h97 e157 hp182 (by decide)
    obtain ⟨rfl, l232⟩ := rr230
    refine l_val E ok (y_load one_9 rfl (hh231 _ _ _ 1 rfl)) rfl rfl fun a E => ?_
    refine wpList_nil ?_
    refine t_norm ?_
    refine k_next (cl1 ⟨m0, _, le_m0, ok, ⟨memAt 3 rfl, trivial⟩⟩ ⟨m0, _, le_m0, ok, ⟨memAt 3 rfl, trivial⟩⟩) fun hT => ?_
    refine k_take 11 E rfl (by kernel_rfl) nP hT (y_cat rfl rfl e171) rfl rfl fun a E => ?_
    refine k_all [12] (by kernel_rfl) rfl (one_c ?_)
    · refine wpOp_of_list (o := _) rfl ?_
      refine l_slit (R := pS) (xo := [.tmp 65]) (xs := ([s170] : List (List UInt8))) E ok sl_62 zero_9 rfl ⟨⟨_, rfl, rfl, (pS_mk (cat_len e171))⟩, trivial⟩ rfl rfl rfl rfl fun c233 M234 a w E ok h235 => ?_
      refine wpList_nil ?_
      refine t_norm ?_
      refine k_next (cl1 ⟨m0, _, le_m0, ok, ⟨memAt 4 rfl, trivial⟩⟩ ⟨m0, _, le_m0, ok, ⟨memAt 4 rfl, trivial⟩⟩) fun hT => ?_
      refine k_all [13] (by kernel_rfl) rfl (one_c ?_)
      · refine wpOp_of_list (o := _) rfl ?_
        refine l_app (R := pS) E ok 2 mS sl_62 Try.underlying62 rfl h97 (SrcOK.ofRow h235 0 rfl ok) e176 ⟨_, zero_9, rfl⟩ rfl rfl rfl rfl fun c236 M237 a w E ok h238 => ?_
        refine wpList_nil ?_
        refine t_norm ?_
        refine k_next (cl1 ⟨m0, _, le_m0, ok, ⟨memAt 4 rfl, trivial⟩⟩ ⟨m0, _, le_m0, ok, ⟨memAt 4 rfl, trivial⟩⟩) fun hT => ?_
        refine k_take 14 E rfl (by kernel_rfl) nP hT (y_assign rfl) rfl rfl fun a E => ?_
        refine k_take 15 E rfl (by kernel_rfl) nP hT (y_assign rfl) rfl rfl fun a E => ?_
        refine k_done (by kernel_rfl) ?_
        exact ⟨rfl, ⟨c202, M203, c236, M237, (ok.pk 5 [2, 3, 4] rfl (by decide)), E.keep [1, 5, 6, 7, 8], h204, h238⟩⟩

def calquelaw09_before_R (u : World) (m0 : Mem) (S : Segs) (r : Bool) (a : Act) (w : World) : Prop :=
  Ok u m0 S w ∧ a.defers = [] ∧ RVs Try.prog a w [.t 4 (.bool r)]
set_option maxHeartbeats 4000000 in
set_option maxRecDepth 100000 in
theorem calquelaw09_before_w {u : World} {m0 : Mem} {S : Segs} {w : World} (N : Nat) (a_0 : List UInt8) (la_0 : a_0.length ≤ LIMS) (b_1 : List UInt8) (lb_1 : b_1.length ≤ LIMS) {r : Bool} (hF : calquelaw09_before N a_0 b_1 = some r) (ok : Ok u m0 S w) :
    Calls Try.prog 20 [Value.string (bs a_0), Value.string (bs b_1)].toArray w fun e w' => (e = .returned (.bool r) ∧ Ok u m0 S w') := by
  have le_m0 := Mem.le.refl m0
  unfold calquelaw09_before at hF
  have fin : ∀ a w, calquelaw09_before_R u m0 S r a w → bodyPost Try.prog Try.f20 (fun e w' => (e = .returned (.bool r) ∧ Ok u m0 S w')) .ret a w := by
    intro a w h
    obtain ⟨ok, hd, hrv⟩ := h
    exact c_ret2 [.t 4 (.bool r)] hd rfl hrv ⟨rfl, ok⟩
  refine enter Try.func20 rfl rfl rfl fun a E => ?_
  refine wp_seq ?_
  refine c_region ?_
  refine l_val E ok (y_assign rfl) rfl rfl fun a E => ?_
  refine wpList_nil ?_
  refine t_norm ?_
  refine wp_seq ?_
  refine wp_seq ?_
  refine c_region ?_
  refine l_val E ok (y_move rfl) rfl rfl fun a E => ?_
  refine l_val E ok (y_slen Try.underlying9 rfl) rfl rfl fun a E => ?_
  refine l_val E ok (y_move rfl) rfl rfl fun a E => ?_
  refine l_val E ok (y_slen Try.underlying9 rfl) rfl rfl fun a E => ?_
  refine l_val E ok (y_neq rfl rfl) rfl rfl fun a E => ?_
  refine wpList_nil ?_
  refine t_norm ?_
  refine c_if E rfl (fun hc1 => ?_) (fun hc1 => ?_)
  · replace hF := cond_t hc1 hF
    refine wp_seq ?_
    refine c_region ?_
    refine l_val E ok (y_move rfl) rfl rfl fun a E => ?_
    refine l_val E ok (y_slen Try.underlying9 rfl) rfl rfl fun a E => ?_
    refine l_val E ok (y_move rfl) rfl rfl fun a E => ?_
    refine l_val E ok (y_slen Try.underlying9 rfl) rfl rfl fun a E => ?_
    refine l_val E ok (y_lss rfl rfl) rfl rfl fun a E => ?_
    refine l_val E ok (y_assign rfl) rfl rfl fun a E => ?_
    refine wpList_nil ?_
    refine t_norm ?_
    refine wp_ret ?_
    refine t_ret ?_
    have hret : calquelaw09_before_R u m0 S (decide ((a_0.length : Int) < (b_1.length : Int))) a w := ⟨ok, E.d, ⟨rv_t E rfl, trivial⟩⟩
    obtain rfl := Option.some.inj hF
    exact fin _ _ hret
  replace hF := cond_f hc1 hF
  refine wp_skip ?_
  refine t_norm ?_
  refine wp_seq ?_
  refine wp_seq ?_
  refine c_region ?_
  refine l_val E ok (y_assign rfl) rfl rfl fun a E => ?_
  refine wpList_nil ?_
  refine t_norm ?_
  refine wp_block ?_
  obtain ⟨o3, hL, hF⟩ := bnd hF
  refine c_loop _ (fun (s : Int) a w => Ok u m0 (S) w ∧ Env 38 a [(0, (Value.string (bs a_0))), (1, (Value.string (bs b_1))), (5, (Value.int .i64 s))] ∧ InR .i64 s) (fun (b : (Unit ⊕ Bool)) e a w => (Sum.elim (fun b23 => e = (.exit 0) ∧ Ok u m0 (S) w ∧ Env 38 a []) (fun b24 => e = .ret ∧ calquelaw09_before_R u m0 S b24 a w)) b) ?_ ?_ N _ a w hL ⟨ok, E.keep [0, 1, 5], (show InR .i64 (0) by decide)⟩
  rotate_left
  · intro e a w _ hO
    rcases o3 with o3 | o3
    rotate_left
    · replace hF := elim_r hF
      obtain ⟨rfl, hret⟩ := hO
      refine b_ret ?_
      refine t_ret ?_
      obtain rfl := Option.some.inj hF
      exact fin _ _ hret
    replace hF := elim_l hF
    obtain ⟨rfl, ok, E⟩ := hO
    refine b_hit ?_
    refine t_norm ?_
    refine wp_seq ?_
    refine c_region ?_
    refine l_val E ok (y_assign rfl) rfl rfl fun a E => ?_
    refine wpList_nil ?_
    refine t_norm ?_
    refine wp_ret ?_
    have hret : calquelaw09_before_R u m0 S false a w := ⟨ok, E.d, ⟨rv_t E rfl, trivial⟩⟩
    obtain rfl := Option.some.inj hF
    exact fin _ _ hret
  rintro i_5 a w r ⟨ok, E, r6⟩ hF
  replace hF : calquelaw09_before_b1 N a_0 b_1 i_5 = some r := hF
  unfold calquelaw09_before_b1 at hF
  refine wp_seq ?_
  refine wp_seq ?_
  refine c_region ?_
  refine l_val E ok (y_move rfl) rfl rfl fun a E => ?_
  refine l_val E ok (y_move rfl) rfl rfl fun a E => ?_
  refine l_val E ok (y_slen Try.underlying9 rfl) rfl rfl fun a E => ?_
  refine l_val E ok (y_lss rfl rfl) rfl rfl fun a E => ?_
  refine wpList_nil ?_
  refine t_norm ?_
  refine c_if E rfl (fun hc7 => ?_) (fun hc7 => ?_)
  rotate_left
  · replace hF := cond_f hc7 hF
    refine wp_exit ?_
    refine t_exit ?_
    obtain rfl := Option.some.inj hF
    exact step_o (by nofun) (sl ⟨rfl, ⟨ok, E.keep []⟩⟩)
  replace hF := cond_t hc7 hF
  refine wp_skip ?_
  refine t_norm ?_
  refine wp_seq ?_
  refine wp_block ?_
  refine wp_seq ?_
  refine c_draw (by kernel_rfl) (by kernel_rfl) ok ?_
  refine q_val E (y_move rfl) rfl rfl fun a E => ?_
  refine q_val E (y_move rfl) rfl rfl fun a E => ?_
  obtain ⟨c8, e9, hF⟩ := bnd hF
  refine q_val E (y_index Try.underlying9 rfl rfl e9) rfl rfl fun a E => ?_
  refine q_val E (y_move rfl) rfl rfl fun a E => ?_
  refine q_val E (y_move rfl) rfl rfl fun a E => ?_
  obtain ⟨c10, e11, hF⟩ := bnd hF
  refine q_val E (y_index Try.underlying9 rfl rfl e11) rfl rfl fun a E => ?_
  refine q_val E (y_neq rfl rfl) rfl rfl fun a E => ?_
  refine wpQuiet_nil ?_
  intro w ok
  refine t_norm ?_
  refine c_if E rfl (fun hc12 => ?_) (fun hc12 => ?_)
  rotate_left
  · replace hF := cond_f hc12 hF
    refine wp_skip ?_
    refine b_norm ?_
    refine t_norm ?_
    refine c_region ?_
    refine l_val E ok (y_move rfl) rfl rfl fun a E => ?_
    refine l_val E ok (y_add rfl rfl (InR.inc r6 (InR.len la_0) hc7)) rfl rfl fun a E => ?_
    refine l_val E ok (y_assign rfl) rfl rfl fun a E => ?_
    refine wpList_nil ?_
    obtain rfl := Option.some.inj hF
    exact step_n ⟨ok, E.keep [0, 1, 5], (InR.inc r6 (InR.len la_0) hc7)⟩
  replace hF := cond_t hc12 hF
  refine wp_seq ?_
  refine c_draw (by kernel_rfl) (by kernel_rfl) ok ?_
  refine q_val E (y_move rfl) rfl rfl fun a E => ?_
  refine q_val E (y_move rfl) rfl rfl fun a E => ?_
  obtain ⟨c13, e14, hF⟩ := bnd hF
  refine q_val E (y_index Try.underlying9 rfl rfl e14) rfl rfl fun a E => ?_
  obtain ⟨r15, e16, hF⟩ := bnd hF
  obtain ⟨_, _, ⟨_, _⟩, r17⟩ := Go.X.Calls.get (calqueref09_Symbol_w N (c13.toNat : Int) (InR.byte c13) e16 ok)
  refine q_call E go_35 rfl (fun w ok => (calqueref09_Symbol_w N (c13.toNat : Int) (InR.byte c13) e16 ok).mono (fun _ _ h => h.1)) rfl rfl fun a E => ?_
  refine q_val E (y_move rfl) rfl rfl fun a E => ?_
  refine q_val E (y_move rfl) rfl rfl fun a E => ?_
  obtain ⟨c18, e19, hF⟩ := bnd hF
  refine q_val E (y_index Try.underlying9 rfl rfl e19) rfl rfl fun a E => ?_
  obtain ⟨r20, e21, hF⟩ := bnd hF
  obtain ⟨_, _, ⟨_, _⟩, r22⟩ := Go.X.Calls.get (calqueref09_Symbol_w N (c18.toNat : Int) (InR.byte c18) e21 ok)
  refine q_call E go_35 rfl (fun w ok => (calqueref09_Symbol_w N (c18.toNat : Int) (InR.byte c18) e21 ok).mono (fun _ _ h => h.1)) rfl rfl fun a E => ?_
  refine q_val E (y_lss rfl rfl) rfl rfl fun a E => ?_
  refine q_val E (y_assign rfl) rfl rfl fun a E => ?_
  refine wpQuiet_nil ?_
  intro w ok
  refine t_norm ?_
  refine wp_ret ?_
  refine b_ret ?_
  refine t_ret ?_
  have hret : calquelaw09_before_R u m0 S (decide (r15 < r20)) a w := ⟨ok, E.d, ⟨rv_t E rfl, trivial⟩⟩
  obtain rfl := Option.some.inj hF
  exact step_o (by nofun) (sr ⟨rfl, hret⟩)

def calquelaw09_AutomatonShortest_R (u : World) (m0 : Mem) (S : Segs) (r : Bool) (a : Act) (w : World) : Prop :=
  Ok u m0 S w ∧ a.defers = [] ∧ RVs Try.prog a w [.t 4 (.bool r)]
set_option maxHeartbeats 4000000 in
set_option maxRecDepth 100000 in
theorem calquelaw09_AutomatonShortest_w {u : World} {m0 : Mem} {S : Segs} {w : World} (N : Nat) (vd_0 : List Value) (d_0 : DFA) (hd_0 : pDFA m0 vd_0 d_0) (word_1 : List UInt8) (lword_1 : word_1.length ≤ LIMS) {r : Bool} (hF : calquelaw09_AutomatonShortest N d_0 word_1 = some r) (ok : Ok u m0 S w) :
    Calls Try.prog 4 [.agg vd_0.toArray, Value.string (bs word_1)].toArray w fun e w' => (e = .returned (.bool r) ∧ Ok u m0 S w') := by
  obtain ⟨c2, c4, rfl, r1, h3, h5⟩ := hd_0
  have le_m0 := Mem.le.refl m0
  unfold calquelaw09_AutomatonShortest at hF
  have fin : ∀ a w, calquelaw09_AutomatonShortest_R u m0 S r a w → bodyPost Try.prog Try.f4 (fun e w' => (e = .returned (.bool r) ∧ Ok u m0 S w')) .ret a w := by
    intro a w h
    obtain ⟨ok, hd, hrv⟩ := h
    exact c_ret2 [.t 4 (.bool r)] hd rfl hrv ⟨rfl, ok⟩
  refine enter Try.func4 rfl rfl rfl fun a E => ?_
  refine wp_seq ?_
  refine c_region ?_
  refine l_box E ok rfl rfl rfl fun b6 a w E ok => ?_
  refine l_val E ok (y_assign rfl) rfl rfl fun a E => ?_
  refine wpList_nil ?_
  refine t_norm ?_
  refine wp_seq ?_
  refine wp_seq ?_
  refine c_region ?_
  obtain ⟨r7, e8, hF⟩ := bnd hF
  refine l_call E go_11 rfl (calquelaw09_awake_w N  e8 ok) rfl rfl ?_
  rintro _ w ⟨rfl, ok⟩
  refine ⟨_, rfl, fun a E => ?_⟩
  refine l_val E ok (y_not rfl) rfl rfl fun a E => ?_
  refine l_val E ok (y_move rfl) rfl rfl fun a E => ?_
  refine bsplit (!r7) (fun hc9 => ?_) (fun hc9 => ?_)
  · replace hF := cond_t hc9 hF
    replace E := E.upd 13 hc9 rfl
    refine l_skip E rfl rfl fun a E => ?_
    refine l_skip E rfl rfl fun a E => ?_
    refine l_skip E rfl rfl fun a E => ?_
    refine l_val E ok (y_pickT rfl rfl) rfl rfl fun a E => ?_
    refine l_val E ok (y_move rfl) rfl rfl fun a E => ?_
    refine l_skip E rfl rfl fun a E => ?_
    refine l_skip E rfl rfl fun a E => ?_
    refine l_skip E rfl rfl fun a E => ?_
    refine l_val E ok (y_pickT rfl rfl) rfl rfl fun a E => ?_
    refine wpList_nil ?_
    refine t_norm ?_
    refine c_if E rfl (fun _ => ?_) (fun h => by cases h)
    refine wp_seq ?_
    refine c_region ?_
    obtain ⟨r10, e11, hF⟩ := bnd hF
    refine l_call E go_11 rfl (calquelaw09_awake_w N  e11 ok) rfl rfl ?_
    rintro _ w ⟨rfl, ok⟩
    refine ⟨_, rfl, fun a E => ?_⟩
    refine l_val E ok (y_assign rfl) rfl rfl fun a E => ?_
    refine wpList_nil ?_
    refine t_norm ?_
    refine wp_ret ?_
    refine t_ret ?_
    have hret : calquelaw09_AutomatonShortest_R u m0 S r10 a w := ⟨ok.drop, E.d, ⟨rv_t E rfl, trivial⟩⟩
    obtain rfl := Option.some.inj hF
    exact fin _ _ hret
  replace hF := cond_f hc9 hF
  replace E := E.upd 13 hc9 rfl
  refine l_val E ok (y_loadAgg (cs := [(Value.int .i64 d_0.Start), c2, c4]) agg_25 rfl rfl (Holds.own 0 rfl rfl)) rfl rfl fun a E => ?_
  obtain ⟨r12, e13, hF⟩ := bnd hF
  refine l_call E go_12 rfl (calqueref09_Few_w N _ d_0 ⟨_, _, rfl, r1, h3, h5⟩ 40 (show InR .i64 (40) by decide) e13 ok) rfl rfl ?_
  rintro _ w ⟨rfl, ok⟩
  refine ⟨_, rfl, fun a E => ?_⟩
  refine l_val E ok (y_not rfl) rfl rfl fun a E => ?_
  refine l_val E ok (y_pickF rfl rfl) rfl rfl fun a E => ?_
  refine l_val E ok (y_move rfl) rfl rfl fun a E => ?_
  refine bsplit (!r12) (fun hc14 => ?_) (fun hc14 => ?_)
  · replace hF := cond_t hc14 hF
    replace E := E.upd 18 hc14 rfl
    refine l_skip E rfl rfl fun a E => ?_
    refine l_skip E rfl rfl fun a E => ?_
    refine l_skip E rfl rfl fun a E => ?_
    refine l_val E ok (y_pickT rfl rfl) rfl rfl fun a E => ?_
    refine wpList_nil ?_
    refine t_norm ?_
    refine c_if E rfl (fun _ => ?_) (fun h => by cases h)
    refine wp_seq ?_
    refine c_region ?_
    obtain ⟨r15, e16, hF⟩ := bnd hF
    refine l_call E go_11 rfl (calquelaw09_awake_w N  e16 ok) rfl rfl ?_
    rintro _ w ⟨rfl, ok⟩
    refine ⟨_, rfl, fun a E => ?_⟩
    refine l_val E ok (y_assign rfl) rfl rfl fun a E => ?_
    refine wpList_nil ?_
    refine t_norm ?_
    refine wp_ret ?_
    refine t_ret ?_
    have hret : calquelaw09_AutomatonShortest_R u m0 S r15 a w := ⟨ok.drop, E.d, ⟨rv_t E rfl, trivial⟩⟩
    obtain rfl := Option.some.inj hF
    exact fin _ _ hret
  replace hF := cond_f hc14 hF
  replace E := E.upd 18 hc14 rfl
  refine l_val E ok (y_move rfl) rfl rfl fun a E => ?_
  refine l_val E ok (y_slen Try.underlying9 rfl) rfl rfl fun a E => ?_
  refine l_val E ok (y_gtr rfl rfl) rfl rfl fun a E => ?_
  refine l_val E ok (y_pickF rfl rfl) rfl rfl fun a E => ?_
  refine wpList_nil ?_
  refine t_norm ?_
  refine c_if E rfl (fun hc17 => ?_) (fun hc17 => ?_)
  · replace hF := cond_t hc17 hF
    refine wp_seq ?_
    refine c_region ?_
    obtain ⟨r18, e19, hF⟩ := bnd hF
    refine l_call E go_11 rfl (calquelaw09_awake_w N  e19 ok) rfl rfl ?_
    rintro _ w ⟨rfl, ok⟩
    refine ⟨_, rfl, fun a E => ?_⟩
    refine l_val E ok (y_assign rfl) rfl rfl fun a E => ?_
    refine wpList_nil ?_
    refine t_norm ?_
    refine wp_ret ?_
    refine t_ret ?_
    have hret : calquelaw09_AutomatonShortest_R u m0 S r18 a w := ⟨ok.drop, E.d, ⟨rv_t E rfl, trivial⟩⟩
    obtain rfl := Option.some.inj hF
    exact fin _ _ hret
  replace hF := cond_f hc17 hF
  refine wp_skip ?_
  refine t_norm ?_
  refine wp_seq ?_
  refine c_region ?_
  refine l_val E ok (y_loadAgg (cs := [(Value.int .i64 d_0.Start), c2, c4]) agg_25 rfl rfl (Holds.own 0 rfl rfl)) rfl rfl fun a E => ?_
  obtain ⟨r20, e21, hF⟩ := bnd hF
  refine l_call E go_14 rfl (calquelaw09_to_w N _ d_0 ⟨_, _, rfl, r1, h3, h5⟩ e21 ok) rfl rfl ?_
  rintro _ w ⟨rfl, ok⟩
  refine ⟨_, rfl, fun a E => ?_⟩
  obtain ⟨r22, e23, hF⟩ := bnd hF
  refine l_call E go_18 rfl (automaton_Shortest_w N _ d_0 ⟨_, _, rfl, r1, h3, h5⟩ e23 ok) rfl rfl ?_
  rintro _ w ⟨⟨rfl, ok⟩, l24, r25⟩
  refine ⟨_, rfl, fun a E => ?_⟩
  refine l_val E ok (y_move rfl) rfl rfl fun a E => ?_
  refine l_val E ok (y_extract rfl rfl) rfl rfl fun a E => ?_
  refine l_val E ok (y_extract rfl rfl) rfl rfl fun a E => ?_
  refine l_val E ok (y_extract rfl rfl) rfl rfl fun a E => ?_
  refine l_val E ok (y_assign rfl) rfl rfl fun a E => ?_
  refine l_val E ok (y_assign rfl) rfl rfl fun a E => ?_
  refine l_val E ok (y_assign rfl) rfl rfl fun a E => ?_
  refine wpList_nil ?_
  refine t_norm ?_
  refine wp_seq ?_
  refine c_region ?_
  refine l_val E ok (y_loadAgg (cs := [(Value.int .i64 d_0.Start), c2, c4]) agg_25 rfl rfl (Holds.own 0 rfl rfl)) rfl rfl fun a E => ?_
  obtain ⟨r26, e27, hF⟩ := bnd hF
  refine l_call E go_19 rfl (calqueref09_Shortest_w N _ d_0 ⟨_, _, rfl, r1, h3, h5⟩ e27 ok) rfl rfl ?_
  rintro _ w ⟨⟨rfl, ok⟩, l28, r29⟩
  refine ⟨_, rfl, fun a E => ?_⟩
  refine l_val E ok (y_move rfl) rfl rfl fun a E => ?_
  refine l_val E ok (y_extract rfl rfl) rfl rfl fun a E => ?_
  refine l_val E ok (y_extract rfl rfl) rfl rfl fun a E => ?_
  refine l_val E ok (y_extract rfl rfl) rfl rfl fun a E => ?_
  refine l_val E ok (y_assign rfl) rfl rfl fun a E => ?_
  refine l_val E ok (y_assign rfl) rfl rfl fun a E => ?_
  refine l_val E ok (y_assign rfl) rfl rfl fun a E => ?_
  refine wpList_nil ?_
  refine t_norm ?_
  refine wp_seq ?_
  refine wp_seq ?_
  refine c_region ?_
  refine l_val E ok (y_move rfl) rfl rfl fun a E => ?_
  refine l_val E ok (y_move rfl) rfl rfl fun a E => ?_
  refine l_val E ok (y_sneq rfl rfl) rfl rfl fun a E => ?_
  refine l_val E ok (y_move rfl) rfl rfl fun a E => ?_
  refine bsplit (r22.1 != r26.1) (fun hc30 => ?_) (fun hc30 => ?_)
  · replace hF := cond_t hc30 hF
    replace E := E.upd 40 hc30 rfl
    refine l_skip E rfl rfl fun a E => ?_
    refine l_skip E rfl rfl fun a E => ?_
    refine l_skip E rfl rfl fun a E => ?_
    refine l_val E ok (y_pickT rfl rfl) rfl rfl fun a E => ?_
    refine l_val E ok (y_move rfl) rfl rfl fun a E => ?_
    refine l_skip E rfl rfl fun a E => ?_
    refine l_skip E rfl rfl fun a E => ?_
    refine l_skip E rfl rfl fun a E => ?_
    refine l_val E ok (y_pickT rfl rfl) rfl rfl fun a E => ?_
    refine wpList_nil ?_
    refine t_norm ?_
    refine c_if E rfl (fun _ => ?_) (fun h => by cases h)
    refine wp_seq ?_
    refine c_region ?_
    refine l_val E ok (y_assign rfl) rfl rfl fun a E => ?_
    refine wpList_nil ?_
    refine t_norm ?_
    refine wp_ret ?_
    refine t_ret ?_
    have hret : calquelaw09_AutomatonShortest_R u m0 S false a w := ⟨ok.drop, E.d, ⟨rv_t E rfl, trivial⟩⟩
    obtain rfl := Option.some.inj hF
    exact fin _ _ hret
  replace hF := cond_f hc30 hF
  replace E := E.upd 40 hc30 rfl
  refine l_val E ok (y_move rfl) rfl rfl fun a E => ?_
  refine l_val E ok (y_move rfl) rfl rfl fun a E => ?_
  refine l_val E ok (y_bneq Try.underlying4 rfl rfl) rfl rfl fun a E => ?_
  refine l_val E ok (y_pickF rfl rfl) rfl rfl fun a E => ?_
  refine l_val E ok (y_move rfl) rfl rfl fun a E => ?_
  refine bsplit (r22.2.1 != r26.2.1) (fun hc31 => ?_) (fun hc31 => ?_)
  · replace hF := cond_t hc31 hF
    replace E := E.upd 45 hc31 rfl
    refine l_skip E rfl rfl fun a E => ?_
    refine l_skip E rfl rfl fun a E => ?_
    refine l_skip E rfl rfl fun a E => ?_
    refine l_val E ok (y_pickT rfl rfl) rfl rfl fun a E => ?_
    refine wpList_nil ?_
    refine t_norm ?_
    refine c_if E rfl (fun _ => ?_) (fun h => by cases h)
    refine wp_seq ?_
    refine c_region ?_
    refine l_val E ok (y_assign rfl) rfl rfl fun a E => ?_
    refine wpList_nil ?_
    refine t_norm ?_
    refine wp_ret ?_
    refine t_ret ?_
    have hret : calquelaw09_AutomatonShortest_R u m0 S false a w := ⟨ok.drop, E.d, ⟨rv_t E rfl, trivial⟩⟩
    obtain rfl := Option.some.inj hF
    exact fin _ _ hret
  replace hF := cond_f hc31 hF
  replace E := E.upd 45 hc31 rfl
  refine l_val E ok (y_move rfl) rfl rfl fun a E => ?_
  refine l_val E ok (y_move rfl) rfl rfl fun a E => ?_
  refine l_val E ok (y_neq rfl rfl) rfl rfl fun a E => ?_
  refine l_val E ok (y_pickF rfl rfl) rfl rfl fun a E => ?_
  refine wpList_nil ?_
  refine t_norm ?_
  refine c_if E rfl (fun hc32 => ?_) (fun hc32 => ?_)
  · replace hF := cond_t hc32 hF
    refine wp_seq ?_
    refine c_region ?_
    refine l_val E ok (y_assign rfl) rfl rfl fun a E => ?_
    refine wpList_nil ?_
    refine t_norm ?_
    refine wp_ret ?_
    refine t_ret ?_
    have hret : calquelaw09_AutomatonShortest_R u m0 S false a w := ⟨ok.drop, E.d, ⟨rv_t E rfl, trivial⟩⟩
    obtain rfl := Option.some.inj hF
    exact fin _ _ hret
  replace hF := cond_f hc32 hF
  refine wp_skip ?_
  refine t_norm ?_
  refine wp_seq ?_
  refine wp_seq ?_
  refine c_region ?_
  refine l_val E ok (y_move rfl) rfl rfl fun a E => ?_
  refine l_val E ok (y_neq rfl rfl) rfl rfl fun a E => ?_
  refine l_val E ok (y_move rfl) rfl rfl fun a E => ?_
  refine bsplit (r22.2.2 != 0) (fun hc33 => ?_) (fun hc33 => ?_)
  · replace hF := cond_t hc33 hF
    replace E := E.upd 52 hc33 rfl
    refine l_skip E rfl rfl fun a E => ?_
    refine l_skip E rfl rfl fun a E => ?_
    refine l_val E ok (y_pickT rfl rfl) rfl rfl fun a E => ?_
    refine wpList_nil ?_
    refine t_norm ?_
    refine c_if E rfl (fun _ => ?_) (fun h => by cases h)
    refine wp_seq ?_
    refine c_region ?_
    refine l_val E ok (y_loadAgg (cs := [(Value.int .i64 d_0.Start), c2, c4]) agg_25 rfl rfl (Holds.own 0 rfl rfl)) rfl rfl fun a E => ?_
    obtain ⟨r34, e35, hF⟩ := bnd hF
    refine l_call E go_14 rfl (calquelaw09_to_w N _ d_0 ⟨_, _, rfl, r1, h3, h5⟩ e35 ok) rfl rfl ?_
    rintro _ w ⟨rfl, ok⟩
    refine ⟨_, rfl, fun a E => ?_⟩
    refine l_val E ok (y_move rfl) rfl rfl fun a E => ?_
    obtain ⟨r36, e37, hF⟩ := bnd hF
    refine l_call E go_16 rfl (automaton_Run_w N _ d_0 ⟨_, _, rfl, r1, h3, h5⟩ word_1 lword_1 e37 ok) rfl rfl ?_
    rintro _ w ⟨rfl, ok⟩
    refine ⟨_, rfl, fun a E => ?_⟩
    refine l_val E ok (y_not rfl) rfl rfl fun a E => ?_
    refine l_val E ok (y_assign rfl) rfl rfl fun a E => ?_
    refine wpList_nil ?_
    refine t_norm ?_
    refine wp_ret ?_
    refine t_ret ?_
    have hret : calquelaw09_AutomatonShortest_R u m0 S (!r36) a w := ⟨ok.drop, E.d, ⟨rv_t E rfl, trivial⟩⟩
    obtain rfl := Option.some.inj hF
    exact fin _ _ hret
  replace hF := cond_f hc33 hF
  replace E := E.upd 52 hc33 rfl
  refine l_val E ok (y_move rfl) rfl rfl fun a E => ?_
  refine l_val E ok (y_not rfl) rfl rfl fun a E => ?_
  refine l_val E ok (y_pickF rfl rfl) rfl rfl fun a E => ?_
  refine wpList_nil ?_
  refine t_norm ?_
  refine c_if E rfl (fun hc38 => ?_) (fun hc38 => ?_)
  · replace hF := cond_t hc38 hF
    refine wp_seq ?_
    refine c_region ?_
    refine l_val E ok (y_loadAgg (cs := [(Value.int .i64 d_0.Start), c2, c4]) agg_25 rfl rfl (Holds.own 0 rfl rfl)) rfl rfl fun a E => ?_
    obtain ⟨r39, e40, hF⟩ := bnd hF
    refine l_call E go_14 rfl (calquelaw09_to_w N _ d_0 ⟨_, _, rfl, r1, h3, h5⟩ e40 ok) rfl rfl ?_
    rintro _ w ⟨rfl, ok⟩
    refine ⟨_, rfl, fun a E => ?_⟩
    refine l_val E ok (y_move rfl) rfl rfl fun a E => ?_
    obtain ⟨r41, e42, hF⟩ := bnd hF
    refine l_call E go_16 rfl (automaton_Run_w N _ d_0 ⟨_, _, rfl, r1, h3, h5⟩ word_1 lword_1 e42 ok) rfl rfl ?_
    rintro _ w ⟨rfl, ok⟩
    refine ⟨_, rfl, fun a E => ?_⟩
    refine l_val E ok (y_not rfl) rfl rfl fun a E => ?_
    refine l_val E ok (y_assign rfl) rfl rfl fun a E => ?_
    refine wpList_nil ?_
    refine t_norm ?_
    refine wp_ret ?_
    refine t_ret ?_
    have hret : calquelaw09_AutomatonShortest_R u m0 S (!r41) a w := ⟨ok.drop, E.d, ⟨rv_t E rfl, trivial⟩⟩
    obtain rfl := Option.some.inj hF
    exact fin _ _ hret
  replace hF := cond_f hc38 hF
  refine wp_skip ?_
  refine t_norm ?_
  refine wp_seq ?_
  refine c_region ?_
  refine l_val E ok (y_loadAgg (cs := [(Value.int .i64 d_0.Start), c2, c4]) agg_25 rfl rfl (Holds.own 0 rfl rfl)) rfl rfl fun a E => ?_
  obtain ⟨r43, e44, hF⟩ := bnd hF
  refine l_call E go_14 rfl (calquelaw09_to_w N _ d_0 ⟨_, _, rfl, r1, h3, h5⟩ e44 ok) rfl rfl ?_
  rintro _ w ⟨rfl, ok⟩
  refine ⟨_, rfl, fun a E => ?_⟩
  refine l_val E ok (y_move rfl) rfl rfl fun a E => ?_
  obtain ⟨r45, e46, hF⟩ := bnd hF
  refine l_call E go_16 rfl (automaton_Run_w N _ d_0 ⟨_, _, rfl, r1, h3, h5⟩ r22.1 l24 e46 ok) rfl rfl ?_
  rintro _ w ⟨rfl, ok⟩
  refine ⟨_, rfl, fun a E => ?_⟩
  refine l_val E ok (y_move rfl) rfl rfl fun a E => ?_
  refine bsplit r45 (fun hc47 => ?_) (fun hc47 => ?_)
  rotate_left
  · replace hF := cond_f hc47 hF
    replace E := E.upd 65 hc47 rfl
    refine l_skip E rfl rfl fun a E => ?_
    refine l_skip E rfl rfl fun a E => ?_
    refine l_skip E rfl rfl fun a E => ?_
    refine l_skip E rfl rfl fun a E => ?_
    refine l_skip E rfl rfl fun a E => ?_
    refine l_skip E rfl rfl fun a E => ?_
    refine l_skip E rfl rfl fun a E => ?_
    refine l_skip E rfl rfl fun a E => ?_
    refine l_skip E rfl rfl fun a E => ?_
    refine l_skip E rfl rfl fun a E => ?_
    refine l_skip E rfl rfl fun a E => ?_
    refine l_val E ok (y_pickF rfl rfl) rfl rfl fun a E => ?_
    refine l_val E ok (y_assign rfl) rfl rfl fun a E => ?_
    refine wpList_nil ?_
    refine t_norm ?_
    refine wp_ret ?_
    have hret : calquelaw09_AutomatonShortest_R u m0 S false a w := ⟨ok.drop, E.d, ⟨rv_t E rfl, trivial⟩⟩
    obtain rfl := Option.some.inj hF
    exact fin _ _ hret
  replace hF := cond_t hc47 hF
  replace E := E.upd 65 hc47 rfl
  refine l_val E ok (y_loadAgg (cs := [(Value.int .i64 d_0.Start), c2, c4]) agg_25 rfl rfl (Holds.own 0 rfl rfl)) rfl rfl fun a E => ?_
  obtain ⟨r48, e49, hF⟩ := bnd hF
  refine l_call E go_14 rfl (calquelaw09_to_w N _ d_0 ⟨_, _, rfl, r1, h3, h5⟩ e49 ok) rfl rfl ?_
  rintro _ w ⟨rfl, ok⟩
  refine ⟨_, rfl, fun a E => ?_⟩
  refine l_val E ok (y_move rfl) rfl rfl fun a E => ?_
  obtain ⟨r50, e51, hF⟩ := bnd hF
  refine l_call E go_16 rfl (automaton_Run_w N _ d_0 ⟨_, _, rfl, r1, h3, h5⟩ word_1 lword_1 e51 ok) rfl rfl ?_
  rintro _ w ⟨rfl, ok⟩
  refine ⟨_, rfl, fun a E => ?_⟩
  refine l_val E ok (y_not rfl) rfl rfl fun a E => ?_
  refine l_val E ok (y_move rfl) rfl rfl fun a E => ?_
  refine bsplit (!r50) (fun hc52 => ?_) (fun hc52 => ?_)
  · replace hF := cond_t hc52 hF
    replace E := E.upd 71 hc52 rfl
    refine l_skip E rfl rfl fun a E => ?_
    refine l_skip E rfl rfl fun a E => ?_
    refine l_skip E rfl rfl fun a E => ?_
    refine l_skip E rfl rfl fun a E => ?_
    refine l_val E ok (y_pickT rfl rfl) rfl rfl fun a E => ?_
    refine l_val E ok (y_pickT rfl rfl) rfl rfl fun a E => ?_
    refine l_val E ok (y_assign rfl) rfl rfl fun a E => ?_
    refine wpList_nil ?_
    refine t_norm ?_
    refine wp_ret ?_
    have hret : calquelaw09_AutomatonShortest_R u m0 S true a w := ⟨ok.drop, E.d, ⟨rv_t E rfl, trivial⟩⟩
    obtain rfl := Option.some.inj hF
    exact fin _ _ hret
  replace hF := cond_f hc52 hF
  replace E := E.upd 71 hc52 rfl
  refine l_val E ok (y_move rfl) rfl rfl fun a E => ?_
  refine l_val E ok (y_move rfl) rfl rfl fun a E => ?_
  obtain ⟨r53, e54, hF⟩ := bnd hF
  refine l_call E go_20 rfl (calquelaw09_before_w N word_1 lword_1 r22.1 l24 e54 ok) rfl rfl ?_
  rintro _ w ⟨rfl, ok⟩
  refine ⟨_, rfl, fun a E => ?_⟩
  refine l_val E ok (y_not rfl) rfl rfl fun a E => ?_
  refine l_val E ok (y_pickF rfl rfl) rfl rfl fun a E => ?_
  refine l_val E ok (y_pickT rfl rfl) rfl rfl fun a E => ?_
  refine l_val E ok (y_assign rfl) rfl rfl fun a E => ?_
  refine wpList_nil ?_
  refine t_norm ?_
  refine wp_ret ?_
  have hret : calquelaw09_AutomatonShortest_R u m0 S (!r53) a w := ⟨ok.drop, E.d, ⟨rv_t E rfl, trivial⟩⟩
  obtain rfl := Option.some.inj hF
  exact fin _ _ hret

def calquelaw09_from_R (u : World) (m0 : Mem) (S : Segs) (vv : List Value) (_r : DFA) (a : Act) (w : World) : Prop :=
  Ok u m0 S w ∧ a.defers = [] ∧ RVs Try.prog a w [.c 2 25 (.agg vv.toArray)]
set_option maxHeartbeats 4000000 in
set_option maxRecDepth 100000 in
theorem calquelaw09_from_w {u : World} {m0 : Mem} {S : Segs} {w : World} (N : Nat) (vd_0 : List Value) (d_0 : DFA) (hd_0 : pDFA m0 vd_0 d_0) {r : DFA} (hF : calquelaw09_from N d_0 = some r) (ok : Ok u m0 S w) :
    Calls Try.prog 24 [.agg vd_0.toArray].toArray w fun e w' => e = .returned (.agg vd_0.toArray) ∧ Ok u m0 S w' := by
  obtain ⟨c2, c4, rfl, r1, h3, h5⟩ := hd_0
  have le_m0 := Mem.le.refl m0
  unfold calquelaw09_from at hF
  have fin : ∀ a w, calquelaw09_from_R u m0 S [(Value.int .i64 d_0.Start), c2, c4] r a w → bodyPost Try.prog Try.f24 (fun e w' => e = .returned (.agg [(Value.int .i64 d_0.Start), c2, c4].toArray) ∧ Ok u m0 S w') .ret a w := by
    intro a w h
    obtain ⟨ok, hd, hrv⟩ := h
    exact c_ret2 [.c 2 25 (.agg [(Value.int .i64 d_0.Start), c2, c4].toArray)] hd rfl hrv ⟨rfl, ok⟩
  refine enter Try.func24 rfl rfl rfl fun a E => ?_
  refine wp_seq ?_
  refine c_region ?_
  refine l_box E ok rfl rfl rfl fun b6 a w E ok => ?_
  refine l_alloc E ok zero_25 rfl rfl fun b7 a w E ok => ?_
  refine wpList_nil ?_
  refine t_norm ?_
  refine wp_seq ?_
  refine c_region ?_
  refine l_val E ok (y_loadAgg (cs := [(Value.int .i64 d_0.Start), c2, c4]) agg_29 rfl rfl (Holds.own 1 rfl rfl)) rfl rfl fun a E => ?_
  refine l_storeB E ok 0 rfl rfl rfl inf_25 rfl rfl ⟨rfl, (pL_one h3), (pL_one h5), trivial⟩ rfl rfl fun w ok => ?_
  refine wpList_nil ?_
  refine t_norm ?_
  refine wp_ret ?_
  have hret : calquelaw09_from_R u m0 S [(Value.int .i64 d_0.Start), c2, c4] d_0 a w := ⟨ok.drop.drop, E.d, ⟨rv_c (cs := [(Value.int .i64 d_0.Start), c2, c4]) E ok rfl agg_25 rfl (Holds.own 0 rfl rfl), trivial⟩⟩
  obtain rfl := Option.some.inj hF
  exact fin _ _ hret

def calqueref09_Equal_R (u : World) (m0 : Mem) (S : Segs) (r : Bool) (a : Act) (w : World) : Prop :=
  Ok u m0 S w ∧ a.defers = [] ∧ RVs Try.prog a w [.t 4 (.bool r)]
set_option maxHeartbeats 4000000 in
set_option maxRecDepth 100000 in
theorem calqueref09_Equal_w {u : World} {m0 : Mem} {S : Segs} {w : World} (N : Nat) (va_0 : List Value) (a_0 : DFA) (ha_0 : pDFA m0 va_0 a_0) (vb_1 : List Value) (b_1 : DFA) (hb_1 : pDFA m0 vb_1 b_1) {r : Bool} (hF : calqueref09_Equal N a_0 b_1 = some r) (ok : Ok u m0 S w) :
    Calls Try.prog 23 [.agg va_0.toArray, .agg vb_1.toArray].toArray w fun e w' => (e = .returned (.bool r) ∧ Ok u m0 S w') := by
  obtain ⟨c2, c4, rfl, r1, h3, h5⟩ := ha_0
  obtain ⟨c7, c9, rfl, r6, h8, h10⟩ := hb_1
  have le_m0 := Mem.le.refl m0
  unfold calqueref09_Equal at hF
  have fin : ∀ a w, calqueref09_Equal_R u m0 S r a w → bodyPost Try.prog Try.f23 (fun e w' => (e = .returned (.bool r) ∧ Ok u m0 S w')) .ret a w := by
    intro a w h
    obtain ⟨ok, hd, hrv⟩ := h
    exact c_ret2 [.t 4 (.bool r)] hd rfl hrv ⟨rfl, ok⟩
  refine enter Try.func23 rfl rfl rfl fun a E => ?_
  refine wp_seq ?_
  refine c_region ?_
  refine l_box E ok rfl rfl rfl fun b11 a w E ok => ?_
  refine l_box E ok rfl rfl rfl fun b12 a w E ok => ?_
  refine l_val E ok (y_assign rfl) rfl rfl fun a E => ?_
  refine wpList_nil ?_
  refine t_norm ?_
  refine wp_seq ?_
  refine wp_seq ?_
  refine c_region ?_
  refine l_val E ok (y_fieldAddr fo_25_0 rfl) rfl rfl fun a E => ?_
  refine l_val E ok (y_load one_3 rfl (Holds.own 1 rfl rfl)) rfl rfl fun a E => ?_
  refine l_val E ok (y_fieldAddr fo_25_0 rfl) rfl rfl fun a E => ?_
  refine l_val E ok (y_load one_3 rfl (Holds.own 0 rfl rfl)) rfl rfl fun a E => ?_
  refine l_val E ok (y_neq rfl rfl) rfl rfl fun a E => ?_
  refine l_val E ok (y_move rfl) rfl rfl fun a E => ?_
  refine bsplit (a_0.Start != b_1.Start) (fun hc13 => ?_) (fun hc13 => ?_)
  · replace hF := cond_t hc13 hF
    replace E := E.upd 13 hc13 rfl
    refine l_skip E rfl rfl fun a E => ?_
    refine l_skip E rfl rfl fun a E => ?_
    refine l_skip E rfl rfl fun a E => ?_
    refine l_skip E rfl rfl fun a E => ?_
    refine l_skip E rfl rfl fun a E => ?_
    refine l_skip E rfl rfl fun a E => ?_
    refine l_skip E rfl rfl fun a E => ?_
    refine l_val E ok (y_pickT rfl rfl) rfl rfl fun a E => ?_
    refine l_val E ok (y_move rfl) rfl rfl fun a E => ?_
    refine l_skip E rfl rfl fun a E => ?_
    refine l_skip E rfl rfl fun a E => ?_
    refine l_skip E rfl rfl fun a E => ?_
    refine l_skip E rfl rfl fun a E => ?_
    refine l_skip E rfl rfl fun a E => ?_
    refine l_skip E rfl rfl fun a E => ?_
    refine l_skip E rfl rfl fun a E => ?_
    refine l_val E ok (y_pickT rfl rfl) rfl rfl fun a E => ?_
    refine wpList_nil ?_
    refine t_norm ?_
    refine c_if E rfl (fun _ => ?_) (fun h => by cases h)
    refine wp_seq ?_
    refine c_region ?_
    refine l_val E ok (y_assign rfl) rfl rfl fun a E => ?_
    refine wpList_nil ?_
    refine t_norm ?_
    refine wp_ret ?_
    refine t_ret ?_
    have hret : calqueref09_Equal_R u m0 S false a w := ⟨ok.drop.drop, E.d, ⟨rv_t E rfl, trivial⟩⟩
    obtain rfl := Option.some.inj hF
    exact fin _ _ hret
  replace hF := cond_f hc13 hF
  replace E := E.upd 13 hc13 rfl
  refine l_val E ok (y_fieldAddr fo_25_1 rfl) rfl rfl fun a E => ?_
  refine l_val E ok (y_load one_22 rfl (Holds.own 1 rfl rfl)) rfl rfl fun a E => ?_
  refine l_val E ok (y_lenL sl_22 h3 rfl) rfl rfl fun a E => ?_
  refine l_val E ok (y_fieldAddr fo_25_1 rfl) rfl rfl fun a E => ?_
  refine l_val E ok (y_load one_22 rfl (Holds.own 0 rfl rfl)) rfl rfl fun a E => ?_
  refine l_val E ok (y_lenL sl_22 h8 rfl) rfl rfl fun a E => ?_
  refine l_val E ok (y_neq rfl rfl) rfl rfl fun a E => ?_
  refine l_val E ok (y_pickF rfl rfl) rfl rfl fun a E => ?_
  refine l_val E ok (y_move rfl) rfl rfl fun a E => ?_
  refine bsplit ((a_0.Next.length : Int) != (b_1.Next.length : Int)) (fun hc14 => ?_) (fun hc14 => ?_)
  · replace hF := cond_t hc14 hF
    replace E := E.upd 22 hc14 rfl
    refine l_skip E rfl rfl fun a E => ?_
    refine l_skip E rfl rfl fun a E => ?_
    refine l_skip E rfl rfl fun a E => ?_
    refine l_skip E rfl rfl fun a E => ?_
    refine l_skip E rfl rfl fun a E => ?_
    refine l_skip E rfl rfl fun a E => ?_
    refine l_skip E rfl rfl fun a E => ?_
    refine l_val E ok (y_pickT rfl rfl) rfl rfl fun a E => ?_
    refine wpList_nil ?_
    refine t_norm ?_
    refine c_if E rfl (fun _ => ?_) (fun h => by cases h)
    refine wp_seq ?_
    refine c_region ?_
    refine l_val E ok (y_assign rfl) rfl rfl fun a E => ?_
    refine wpList_nil ?_
    refine t_norm ?_
    refine wp_ret ?_
    refine t_ret ?_
    have hret : calqueref09_Equal_R u m0 S false a w := ⟨ok.drop.drop, E.d, ⟨rv_t E rfl, trivial⟩⟩
    obtain rfl := Option.some.inj hF
    exact fin _ _ hret
  replace hF := cond_f hc14 hF
  replace E := E.upd 22 hc14 rfl
  refine l_val E ok (y_fieldAddr fo_25_2 rfl) rfl rfl fun a E => ?_
  refine l_val E ok (y_load one_23 rfl (Holds.own 1 rfl rfl)) rfl rfl fun a E => ?_
  refine l_val E ok (y_lenL sl_23 h5 rfl) rfl rfl fun a E => ?_
  refine l_val E ok (y_fieldAddr fo_25_2 rfl) rfl rfl fun a E => ?_
  refine l_val E ok (y_load one_23 rfl (Holds.own 0 rfl rfl)) rfl rfl fun a E => ?_
  refine l_val E ok (y_lenL sl_23 h10 rfl) rfl rfl fun a E => ?_
  refine l_val E ok (y_neq rfl rfl) rfl rfl fun a E => ?_
  refine l_val E ok (y_pickF rfl rfl) rfl rfl fun a E => ?_
  refine wpList_nil ?_
  refine t_norm ?_
  refine c_if E rfl (fun hc15 => ?_) (fun hc15 => ?_)
  · replace hF := cond_t hc15 hF
    refine wp_seq ?_
    refine c_region ?_
    refine l_val E ok (y_assign rfl) rfl rfl fun a E => ?_
    refine wpList_nil ?_
    refine t_norm ?_
    refine wp_ret ?_
    refine t_ret ?_
    have hret : calqueref09_Equal_R u m0 S false a w := ⟨ok.drop.drop, E.d, ⟨rv_t E rfl, trivial⟩⟩
    obtain rfl := Option.some.inj hF
    exact fin _ _ hret
  replace hF := cond_f hc15 hF
  refine wp_skip ?_
  refine t_norm ?_
  refine wp_seq ?_
  refine wp_seq ?_
  refine c_region ?_
  refine l_val E ok (y_assign rfl) rfl rfl fun a E => ?_
  refine wpList_nil ?_
  refine t_norm ?_
  refine wp_block ?_
  obtain ⟨o17, hL, hF⟩ := bnd hF
  refine c_loop _ (fun (s : Int) a w => Ok u m0 ([(b12, Obj.cells [(Value.int .i64 b_1.Start), c7, c9].toArray 25 (0, 0))] :: [(b11, Obj.cells [(Value.int .i64 a_0.Start), c2, c4].toArray 25 (0, 0))] :: S) w ∧ Env 96 a [(2, (Value.pointer (some ⟨b11, 0, none⟩))), (3, (Value.pointer (some ⟨b12, 0, none⟩))), (5, (Value.int .i64 s))] ∧ InR .i64 s) (fun (b : (Unit ⊕ Bool)) e a w => (Sum.elim (fun b134 => e = (.exit 0) ∧ Ok u m0 ([(b12, Obj.cells [(Value.int .i64 b_1.Start), c7, c9].toArray 25 (0, 0))] :: [(b11, Obj.cells [(Value.int .i64 a_0.Start), c2, c4].toArray 25 (0, 0))] :: S) w ∧ Env 96 a [(2, (Value.pointer (some ⟨b11, 0, none⟩))), (3, (Value.pointer (some ⟨b12, 0, none⟩)))]) (fun b135 => e = .ret ∧ calqueref09_Equal_R u m0 S b135 a w)) b) ?_ ?_ N _ a w hL ⟨ok, E.keep [2, 3, 5], (show InR .i64 (0) by decide)⟩
  rotate_left
  · as_aux_lemma =>
      intro e a w _ hO
      rcases o17 with o17 | o17
      rotate_left
      · replace hF := elim_r hF
        obtain ⟨rfl, hret⟩ := hO
        refine b_ret ?_
        refine t_ret ?_
        obtain rfl := Option.some.inj hF
        exact fin _ _ hret
      replace hF := elim_l hF
      obtain ⟨rfl, ok, E⟩ := hO
      refine b_hit ?_
      refine t_norm ?_
      refine wp_seq ?_
      refine wp_seq ?_
      refine c_region ?_
      refine l_val E ok (y_assign rfl) rfl rfl fun a E => ?_
      refine wpList_nil ?_
      refine t_norm ?_
      refine wp_block ?_
      obtain ⟨o108, hL, hF⟩ := bnd hF
      refine c_loop _ (fun (s : Int) a w => Ok u m0 ([(b12, Obj.cells [(Value.int .i64 b_1.Start), c7, c9].toArray 25 (0, 0))] :: [(b11, Obj.cells [(Value.int .i64 a_0.Start), c2, c4].toArray 25 (0, 0))] :: S) w ∧ Env 96 a [(2, (Value.pointer (some ⟨b11, 0, none⟩))), (3, (Value.pointer (some ⟨b12, 0, none⟩))), (7, (Value.int .i64 s))] ∧ InR .i64 s) (fun (b : (Unit ⊕ Bool)) e a w => (Sum.elim (fun b132 => e = (.exit 4) ∧ Ok u m0 ([(b12, Obj.cells [(Value.int .i64 b_1.Start), c7, c9].toArray 25 (0, 0))] :: [(b11, Obj.cells [(Value.int .i64 a_0.Start), c2, c4].toArray 25 (0, 0))] :: S) w ∧ Env 96 a []) (fun b133 => e = .ret ∧ calqueref09_Equal_R u m0 S b133 a w)) b) ?_ ?_ N _ a w hL ⟨ok, E.keep [2, 3, 7], (show InR .i64 (0) by decide)⟩
      rotate_left
      · intro e a w _ hO
        rcases o108 with o108 | o108
        rotate_left
        · replace hF := elim_r hF
          obtain ⟨rfl, hret⟩ := hO
          refine b_ret ?_
          refine t_ret ?_
          obtain rfl := Option.some.inj hF
          exact fin _ _ hret
        replace hF := elim_l hF
        obtain ⟨rfl, ok, E⟩ := hO
        refine b_hit ?_
        refine t_norm ?_
        refine wp_seq ?_
        refine c_region ?_
        refine l_val E ok (y_assign rfl) rfl rfl fun a E => ?_
        refine wpList_nil ?_
        refine t_norm ?_
        refine wp_ret ?_
        have hret : calqueref09_Equal_R u m0 S true a w := ⟨ok.drop.drop, E.d, ⟨rv_t E rfl, trivial⟩⟩
        obtain rfl := Option.some.inj hF
        exact fin _ _ hret
      rintro i_110 a w r ⟨ok, E, r111⟩ hF
      replace hF : calqueref09_Equal_b3 N a_0 b_1 i_110 = some r := hF
      unfold calqueref09_Equal_b3 at hF
      refine wp_seq ?_
      refine wp_seq ?_
      refine c_region ?_
      refine l_val E ok (y_move rfl) rfl rfl fun a E => ?_
      refine l_val E ok (y_fieldAddr fo_25_2 rfl) rfl rfl fun a E => ?_
      refine l_val E ok (y_load one_23 rfl (Holds.own 1 rfl rfl)) rfl rfl fun a E => ?_
      refine l_val E ok (y_lenL sl_23 h5 rfl) rfl rfl fun a E => ?_
      refine l_val E ok (y_lss rfl rfl) rfl rfl fun a E => ?_
      refine wpList_nil ?_
      refine t_norm ?_
      refine c_if E rfl (fun hc112 => ?_) (fun hc112 => ?_)
      rotate_left
      · replace hF := cond_f hc112 hF
        refine wp_exit ?_
        refine t_exit ?_
        obtain rfl := Option.some.inj hF
        exact step_o (by nofun) (sl ⟨rfl, ⟨ok, E.keep []⟩⟩)
      replace hF := cond_t hc112 hF
      refine wp_skip ?_
      refine t_norm ?_
      refine wp_seq ?_
      refine wp_block ?_
      refine wp_seq ?_
      refine c_draw (by kernel_rfl) (by kernel_rfl) ok ?_
      refine q_val E (y_fieldAddr fo_25_2 rfl) rfl rfl fun a E => ?_
      refine q_val E (y_load one_23 rfl (Holds.own 1 rfl rfl)) rfl rfl fun a E => ?_
      refine q_val E (y_move rfl) rfl rfl fun a E => ?_
      obtain ⟨x113, e114, hF⟩ := bnd hF
      obtain ⟨b115, o116, es117, hl118, rr119, at120, yy121⟩ := idxAt sl_23 h5 e114 (P := Try.prog) (X := .tmp 86) (I := .tmp 87) (kd := .i64) (ev_of E rfl) (ev_of E rfl)
      obtain rfl := rr119
      refine q_val E (yy121 _ _) rfl rfl fun a E => ?_
      refine q_val E (y_load one_4 rfl (Holds.ro at120)) rfl rfl fun a E => ?_
      refine q_val E (y_fieldAddr fo_25_2 rfl) rfl rfl fun a E => ?_
      refine q_val E (y_load one_23 rfl (Holds.own 0 rfl rfl)) rfl rfl fun a E => ?_
      refine q_val E (y_move rfl) rfl rfl fun a E => ?_
      obtain ⟨x122, e123, hF⟩ := bnd hF
      obtain ⟨b124, o125, es126, hl127, rr128, at129, yy130⟩ := idxAt sl_23 h10 e123 (P := Try.prog) (X := .tmp 91) (I := .tmp 92) (kd := .i64) (ev_of E rfl) (ev_of E rfl)
      obtain rfl := rr128
      refine q_val E (yy130 _ _) rfl rfl fun a E => ?_
      refine q_val E (y_load one_4 rfl (Holds.ro at129)) rfl rfl fun a E => ?_
      refine q_val E (y_bneq Try.underlying4 rfl rfl) rfl rfl fun a E => ?_
      refine wpQuiet_nil ?_
      intro w ok
      refine t_norm ?_
      refine c_if E rfl (fun hc131 => ?_) (fun hc131 => ?_)
      rotate_left
      · replace hF := cond_f hc131 hF
        refine wp_skip ?_
        refine b_norm ?_
        refine t_norm ?_
        refine c_region ?_
        refine l_val E ok (y_move rfl) rfl rfl fun a E => ?_
        refine l_val E ok (y_add rfl rfl (InR.inc r111 (pL_InR h5) hc112)) rfl rfl fun a E => ?_
        refine l_val E ok (y_assign rfl) rfl rfl fun a E => ?_
        refine wpList_nil ?_
        obtain rfl := Option.some.inj hF
        exact step_n ⟨ok, E.keep [2, 3, 7], (InR.inc r111 (pL_InR h5) hc112)⟩
      replace hF := cond_t hc131 hF
      refine wp_seq ?_
      refine c_region ?_
      refine l_val E ok (y_assign rfl) rfl rfl fun a E => ?_
      refine wpList_nil ?_
      refine t_norm ?_
      refine wp_ret ?_
      refine b_ret ?_
      refine t_ret ?_
      have hret : calqueref09_Equal_R u m0 S false a w := ⟨ok.drop.drop, E.d, ⟨rv_t E rfl, trivial⟩⟩
      obtain rfl := Option.some.inj hF
      exact step_o (by nofun) (sr ⟨rfl, hret⟩)
  rintro i_19 a w r ⟨ok, E, r20⟩ hF
  replace hF : calqueref09_Equal_b1 N a_0 b_1 i_19 = some r := hF
  unfold calqueref09_Equal_b1 at hF
  refine wp_seq ?_
  refine wp_seq ?_
  refine c_region ?_
  refine l_val E ok (y_move rfl) rfl rfl fun a E => ?_
  refine l_val E ok (y_fieldAddr fo_25_1 rfl) rfl rfl fun a E => ?_
  refine l_val E ok (y_load one_22 rfl (Holds.own 1 rfl rfl)) rfl rfl fun a E => ?_
  refine l_val E ok (y_lenL sl_22 h3 rfl) rfl rfl fun a E => ?_
  refine l_val E ok (y_lss rfl rfl) rfl rfl fun a E => ?_
  refine wpList_nil ?_
  refine t_norm ?_
  refine c_if E rfl (fun hc21 => ?_) (fun hc21 => ?_)
  rotate_left
  · replace hF := cond_f hc21 hF
    refine wp_exit ?_
    refine t_exit ?_
    obtain rfl := Option.some.inj hF
    exact step_o (by nofun) (sl ⟨rfl, ⟨ok, E.keep [2, 3]⟩⟩)
  replace hF := cond_t hc21 hF
  refine wp_skip ?_
  refine t_norm ?_
  refine wp_seq ?_
  refine wp_block ?_
  refine wp_seq ?_
  refine wp_seq ?_
  refine c_draw (by kernel_rfl) (by kernel_rfl) ok ?_
  refine q_val E (y_fieldAddr fo_25_1 rfl) rfl rfl fun a E => ?_
  refine q_val E (y_load one_22 rfl (Holds.own 1 rfl rfl)) rfl rfl fun a E => ?_
  refine q_val E (y_move rfl) rfl rfl fun a E => ?_
  obtain ⟨x22, e23, hF⟩ := bnd hF
  obtain ⟨b24, o25, es26, hl27, rr28, at29, yy30⟩ := idxAt sl_22 h3 e23 (P := Try.prog) (X := .tmp 39) (I := .tmp 40) (kd := .i64) (ev_of E rfl) (ev_of E rfl)
  obtain ⟨c31, rfl, h32⟩ := pL_cell rr28
  refine q_val E (yy30 _ _) rfl rfl fun a E => ?_
  refine q_val E (y_load one_56 rfl (Holds.ro at29)) rfl rfl fun a E => ?_
  refine q_val E (y_lenL sl_56 h32 rfl) rfl rfl fun a E => ?_
  refine q_val E (y_fieldAddr fo_25_1 rfl) rfl rfl fun a E => ?_
  refine q_val E (y_load one_22 rfl (Holds.own 0 rfl rfl)) rfl rfl fun a E => ?_
  refine q_val E (y_move rfl) rfl rfl fun a E => ?_
  obtain ⟨x33, e34, hF⟩ := bnd hF
  obtain ⟨b35, o36, es37, hl38, rr39, at40, yy41⟩ := idxAt sl_22 h8 e34 (P := Try.prog) (X := .tmp 45) (I := .tmp 46) (kd := .i64) (ev_of E rfl) (ev_of E rfl)
  obtain ⟨c42, rfl, h43⟩ := pL_cell rr39
  refine q_val E (yy41 _ _) rfl rfl fun a E => ?_
  refine q_val E (y_load one_56 rfl (Holds.ro at40)) rfl rfl fun a E => ?_
  refine q_val E (y_lenL sl_56 h43 rfl) rfl rfl fun a E => ?_
  refine q_val E (y_neq rfl rfl) rfl rfl fun a E => ?_
  refine wpQuiet_nil ?_
  intro w ok
  refine t_norm ?_
  refine c_if E rfl (fun hc44 => ?_) (fun hc44 => ?_)
  · replace hF := cond_t hc44 hF
    refine wp_seq ?_
    refine c_region ?_
    refine l_val E ok (y_assign rfl) rfl rfl fun a E => ?_
    refine wpList_nil ?_
    refine t_norm ?_
    refine wp_ret ?_
    refine t_ret ?_
    refine b_ret ?_
    refine t_ret ?_
    have hret : calqueref09_Equal_R u m0 S false a w := ⟨ok.drop.drop, E.d, ⟨rv_t E rfl, trivial⟩⟩
    obtain rfl := Option.some.inj hF
    exact step_o (by nofun) (sr ⟨rfl, hret⟩)
  replace hF := cond_f hc44 hF
  refine wp_skip ?_
  refine t_norm ?_
  refine wp_seq ?_
  refine c_region ?_
  refine l_val E ok (y_assign rfl) rfl rfl fun a E => ?_
  refine wpList_nil ?_
  refine t_norm ?_
  refine wp_block ?_
  obtain ⟨o46, hL, hF⟩ := bnd hF
  refine c_loop _ (fun (s : Int) a w => Ok u m0 ([(b12, Obj.cells [(Value.int .i64 b_1.Start), c7, c9].toArray 25 (0, 0))] :: [(b11, Obj.cells [(Value.int .i64 a_0.Start), c2, c4].toArray 25 (0, 0))] :: S) w ∧ Env 96 a [(2, (Value.pointer (some ⟨b11, 0, none⟩))), (3, (Value.pointer (some ⟨b12, 0, none⟩))), (5, (Value.int .i64 i_19)), (6, (Value.int .i64 s))] ∧ InR .i64 s) (fun (b : (Unit ⊕ Bool)) e a w => (Sum.elim (fun b105 => e = (.exit 2) ∧ Ok u m0 ([(b12, Obj.cells [(Value.int .i64 b_1.Start), c7, c9].toArray 25 (0, 0))] :: [(b11, Obj.cells [(Value.int .i64 a_0.Start), c2, c4].toArray 25 (0, 0))] :: S) w ∧ Env 96 a [(2, (Value.pointer (some ⟨b11, 0, none⟩))), (3, (Value.pointer (some ⟨b12, 0, none⟩))), (5, (Value.int .i64 i_19))]) (fun b106 => e = .ret ∧ calqueref09_Equal_R u m0 S b106 a w)) b) ?_ ?_ N _ a w hL ⟨ok, E.keep [2, 3, 5, 6], (show InR .i64 (0) by decide)⟩
  rotate_left
  · intro e a w _ hO
    rcases o46 with o46 | o46
    rotate_left
    · replace hF := elim_r hF
      obtain ⟨rfl, hret⟩ := hO
      refine b_ret ?_
      refine b_ret ?_
      refine t_ret ?_
      obtain rfl := Option.some.inj hF
      exact step_o (by nofun) (sr ⟨rfl, hret⟩)
    replace hF := elim_l hF
    obtain ⟨rfl, ok, E⟩ := hO
    refine b_hit ?_
    refine b_norm ?_
    refine t_norm ?_
    refine c_region ?_
    refine l_val E ok (y_move rfl) rfl rfl fun a E => ?_
    refine l_val E ok (y_add rfl rfl (InR.inc r20 (pL_InR h3) hc21)) rfl rfl fun a E => ?_
    refine l_val E ok (y_assign rfl) rfl rfl fun a E => ?_
    refine wpList_nil ?_
    obtain rfl := Option.some.inj hF
    exact step_n ⟨ok, E.keep [2, 3, 5], (InR.inc r20 (pL_InR h3) hc21)⟩
  rintro c_48 a w r ⟨ok, E, r49⟩ hF
  replace hF : calqueref09_Equal_b2 N a_0 b_1 i_19 c_48 = some r := hF
  unfold calqueref09_Equal_b2 at hF
  refine wp_seq ?_
  refine wp_seq ?_
  refine c_region ?_
  refine l_val E ok (y_move rfl) rfl rfl fun a E => ?_
  refine l_val E ok (y_fieldAddr fo_25_1 rfl) rfl rfl fun a E => ?_
  refine l_val E ok (y_load one_22 rfl (Holds.own 1 rfl rfl)) rfl rfl fun a E => ?_
  refine l_val E ok (y_move rfl) rfl rfl fun a E => ?_
  obtain ⟨x50, e51, hF⟩ := bnd hF
  obtain ⟨b52, o53, es54, hl55, rr56, at57, yy58⟩ := idxAt sl_22 h3 e51 (P := Try.prog) (X := .tmp 53) (I := .tmp 54) (kd := .i64) (ev_of E rfl) (ev_of E rfl)
  obtain ⟨c59, rfl, h60⟩ := pL_cell rr56
  refine l_val E ok (yy58 _ _) rfl rfl fun a E => ?_
  refine l_val E ok (y_load one_56 rfl (Holds.ro at57)) rfl rfl fun a E => ?_
  refine l_val E ok (y_lenL sl_56 h60 rfl) rfl rfl fun a E => ?_
  refine l_val E ok (y_lss rfl rfl) rfl rfl fun a E => ?_
  refine wpList_nil ?_
  refine t_norm ?_
  refine c_if E rfl (fun hc61 => ?_) (fun hc61 => ?_)
  rotate_left
  · replace hF := cond_f hc61 hF
    refine wp_exit ?_
    refine t_exit ?_
    obtain rfl := Option.some.inj hF
    exact step_o (by nofun) (sl ⟨rfl, ⟨ok, E.keep [2, 3, 5]⟩⟩)
  replace hF := cond_t hc61 hF
  refine wp_skip ?_
  refine t_norm ?_
  refine wp_seq ?_
  refine wp_block ?_
  refine wp_seq ?_
  refine c_draw (by kernel_rfl) (by kernel_rfl) ok ?_
  refine q_val E (y_fieldAddr fo_25_1 rfl) rfl rfl fun a E => ?_
  refine q_val E (y_load one_22 rfl (Holds.own 1 rfl rfl)) rfl rfl fun a E => ?_
  refine q_val E (y_move rfl) rfl rfl fun a E => ?_
  obtain ⟨x62, e63, hF⟩ := bnd hF
  obtain ⟨b64, o65, es66, hl67, rr68, at69, yy70⟩ := idxAt sl_22 h3 e63 (P := Try.prog) (X := .tmp 62) (I := .tmp 63) (kd := .i64) (ev_of E rfl) (ev_of E rfl)
  obtain ⟨c71, rfl, h72⟩ := pL_cell rr68
  refine q_val E (yy70 _ _) rfl rfl fun a E => ?_
  refine q_val E (y_load one_56 rfl (Holds.ro at69)) rfl rfl fun a E => ?_
  refine q_val E (y_move rfl) rfl rfl fun a E => ?_
  obtain ⟨x73, e74, hF⟩ := bnd hF
  obtain ⟨b75, o76, es77, hl78, rr79, at80, yy81⟩ := idxAt sl_56 h72 e74 (P := Try.prog) (X := .tmp 65) (I := .tmp 66) (kd := .i64) (ev_of E rfl) (ev_of E rfl)
  obtain ⟨rfl, r82⟩ := rr79
  refine q_val E (yy81 _ _) rfl rfl fun a E => ?_
  refine q_val E (y_load one_3 rfl (Holds.ro at80)) rfl rfl fun a E => ?_
  refine q_val E (y_fieldAddr fo_25_1 rfl) rfl rfl fun a E => ?_
  refine q_val E (y_load one_22 rfl (Holds.own 0 rfl rfl)) rfl rfl fun a E => ?_
  refine q_val E (y_move rfl) rfl rfl fun a E => ?_
  obtain ⟨x83, e84, hF⟩ := bnd hF
  obtain ⟨b85, o86, es87, hl88, rr89, at90, yy91⟩ := idxAt sl_22 h8 e84 (P := Try.prog) (X := .tmp 70) (I := .tmp 71) (kd := .i64) (ev_of E rfl) (ev_of E rfl)
  obtain ⟨c92, rfl, h93⟩ := pL_cell rr89
  refine q_val E (yy91 _ _) rfl rfl fun a E => ?_
  refine q_val E (y_load one_56 rfl (Holds.ro at90)) rfl rfl fun a E => ?_
  refine q_val E (y_move rfl) rfl rfl fun a E => ?_
  obtain ⟨x94, e95, hF⟩ := bnd hF
  obtain ⟨b96, o97, es98, hl99, rr100, at101, yy102⟩ := idxAt sl_56 h93 e95 (P := Try.prog) (X := .tmp 73) (I := .tmp 74) (kd := .i64) (ev_of E rfl) (ev_of E rfl)
  obtain ⟨rfl, r103⟩ := rr100
  refine q_val E (yy102 _ _) rfl rfl fun a E => ?_
  refine q_val E (y_load one_3 rfl (Holds.ro at101)) rfl rfl fun a E => ?_
  refine q_val E (y_neq rfl rfl) rfl rfl fun a E => ?_
  refine wpQuiet_nil ?_
  intro w ok
  refine t_norm ?_
  refine c_if E rfl (fun hc104 => ?_) (fun hc104 => ?_)
  rotate_left
  · replace hF := cond_f hc104 hF
    refine wp_skip ?_
    refine b_norm ?_
    refine t_norm ?_
    refine c_region ?_
    refine l_val E ok (y_move rfl) rfl rfl fun a E => ?_
    refine l_val E ok (y_add rfl rfl (InR.inc r49 (pL_InR h60) hc61)) rfl rfl fun a E => ?_
    refine l_val E ok (y_assign rfl) rfl rfl fun a E => ?_
    refine wpList_nil ?_
    obtain rfl := Option.some.inj hF
    exact step_n ⟨ok, E.keep [2, 3, 5, 6], (InR.inc r49 (pL_InR h60) hc61)⟩
  replace hF := cond_t hc104 hF
  refine wp_seq ?_
  refine c_region ?_
  refine l_val E ok (y_assign rfl) rfl rfl fun a E => ?_
  refine wpList_nil ?_
  refine t_norm ?_
  refine wp_ret ?_
  refine b_ret ?_
  refine t_ret ?_
  have hret : calqueref09_Equal_R u m0 S false a w := ⟨ok.drop.drop, E.d, ⟨rv_t E rfl, trivial⟩⟩
  obtain rfl := Option.some.inj hF
  exact step_o (by nofun) (sr ⟨rfl, hret⟩)

end Go.Proofs.Ytdlaobjbjmecnaa
