/- The walks of this part: the model's run of each function yields what the plain function says. Printed by gen.py. -/
import Derived.Test.YtdlaobjbjmecnaaExt09b
import Derived.Test.YtdlaobjbjmecnaaWalk09a
import Derived.Test.YtdlaobjbjmecnaaChecked
set_option linter.unusedVariables false
namespace Go.Proofs.Ytdlaobjbjmecnaa
open Go.X

def pArr11_Int : Rp Arr11_Int := fun _ cs x => cs = [.int .i64 x.e0, .int .i64 x.e1, .int .i64 x.e2, .int .i64 x.e3, .int .i64 x.e4, .int .i64 x.e5, .int .i64 x.e6, .int .i64 x.e7, .int .i64 x.e8, .int .i64 x.e9, .int .i64 x.e10] ∧ InR .i64 x.e0 ∧ InR .i64 x.e1 ∧ InR .i64 x.e2 ∧ InR .i64 x.e3 ∧ InR .i64 x.e4 ∧ InR .i64 x.e5 ∧ InR .i64 x.e6 ∧ InR .i64 x.e7 ∧ InR .i64 x.e8 ∧ InR .i64 x.e9 ∧ InR .i64 x.e10
theorem mArr11_Int : Mono pArr11_Int := ⟨fun _ h => by
  obtain ⟨e, h0, h1, h2, h3, h4, h5, h6, h7, h8, h9, h10⟩ := h
  exact ⟨e, h0, h1, h2, h3, h4, h5, h6, h7, h8, h9, h10⟩, fun h => by
  obtain ⟨rfl, h0, h1, h2, h3, h4, h5, h6, h7, h8, h9, h10⟩ := h
  exact ⟨rfl, rfl, rfl, rfl, rfl, rfl, rfl, rfl, rfl, rfl, rfl, trivial⟩⟩

theorem Arr11_Int.set_list {a z : Arr11_Int} {i : Int} {x : Int} (h : Arr11_Int.set a i x = some z) : setI a.list i x = some z.list := by
  unfold Arr11_Int.set at h
  cases hs : setI a.list i x with
  | none => rw [hs] at h; cases h
  | some l =>
    rw [hs] at h
    obtain ⟨_, _, hl⟩ := setI_range hs
    have hn : l.length = 11 := by rw [hl, List.length_set]; rfl
    clear hl hs
    match l, hn, h with
    | [x0, x1, x2, x3, x4, x5, x6, x7, x8, x9, x10], _, h => cases h; rfl

def pKey : Rp Key := fun _ cs x => cs = [.int .i64 x.class_, .int .i64 x.next.e0, .int .i64 x.next.e1, .int .i64 x.next.e2, .int .i64 x.next.e3, .int .i64 x.next.e4, .int .i64 x.next.e5, .int .i64 x.next.e6, .int .i64 x.next.e7, .int .i64 x.next.e8, .int .i64 x.next.e9, .int .i64 x.next.e10] ∧ InR .i64 x.class_ ∧ InR .i64 x.next.e0 ∧ InR .i64 x.next.e1 ∧ InR .i64 x.next.e2 ∧ InR .i64 x.next.e3 ∧ InR .i64 x.next.e4 ∧ InR .i64 x.next.e5 ∧ InR .i64 x.next.e6 ∧ InR .i64 x.next.e7 ∧ InR .i64 x.next.e8 ∧ InR .i64 x.next.e9 ∧ InR .i64 x.next.e10
theorem mKey : Mono pKey := ⟨fun _ h => by
  obtain ⟨e, h0, h1, h2, h3, h4, h5, h6, h7, h8, h9, h10, h11⟩ := h
  exact ⟨e, h0, h1, h2, h3, h4, h5, h6, h7, h8, h9, h10, h11⟩, fun h => by
  obtain ⟨rfl, h0, h1, h2, h3, h4, h5, h6, h7, h8, h9, h10, h11⟩ := h
  exact ⟨rfl, rfl, rfl, rfl, rfl, rfl, rfl, rfl, rfl, rfl, rfl, rfl, trivial⟩⟩

theorem agg_81 : aggB Try.prog 81 12 = true := by kernel_rfl
theorem art_79 : ArT Try.prog 79 3 11 1 := ArT.of (by kernel_rfl)
theorem fo_81_1 : fieldOffB Try.prog 81 1 1 = true := by kernel_rfl
theorem go_21 : goB Try.prog 21 = true := by kernel_rfl
theorem go_22 : goB Try.prog 22 = true := by kernel_rfl
theorem go_23 : goB Try.prog 23 = true := by kernel_rfl
theorem go_24 : goB Try.prog 24 = true := by kernel_rfl
theorem go_28 : goB Try.prog 28 = true := by kernel_rfl
theorem go_29 : goB Try.prog 29 = true := by kernel_rfl
theorem go_41 : goB Try.prog 41 = true := by kernel_rfl
theorem go_42 : goB Try.prog 42 = true := by kernel_rfl
theorem go_43 : goB Try.prog 43 = true := by kernel_rfl
theorem go_48 : goB Try.prog 48 = true := by kernel_rfl
theorem go_49 : goB Try.prog 49 = true := by kernel_rfl
theorem go_50 : goB Try.prog 50 = true := by kernel_rfl
theorem go_51 : goB Try.prog 51 = true := by kernel_rfl
theorem go_52 : goB Try.prog 52 = true := by kernel_rfl
theorem inf_22 : ∃ i, Try.prog.info? 22 = some i ∧ i.size = 1 := ⟨_, rfl, by kernel_rfl⟩
theorem inf_23 : ∃ i, Try.prog.info? 23 = some i ∧ i.size = 1 := ⟨_, rfl, by kernel_rfl⟩
theorem inf_4 : ∃ i, Try.prog.info? 4 = some i ∧ i.size = 1 := ⟨_, rfl, by kernel_rfl⟩
theorem inf_56 : ∃ i, Try.prog.info? 56 = some i ∧ i.size = 1 := ⟨_, rfl, by kernel_rfl⟩
theorem inf_81 : ∃ i, Try.prog.info? 81 = some i ∧ i.size = 12 := ⟨_, rfl, by kernel_rfl⟩
theorem places_25 : placesB Try.prog 25 = some [(0, 1), (1, 1), (2, 1)] := by kernel_rfl
theorem places_81 : placesB Try.prog 81 = some [(0, 1), (1, 11)] := by kernel_rfl
theorem zeroV_3 : zeroV Try.prog 3 = some (Value.int .i64 0) := by kernel_rfl
theorem zero_81 : zeroB Try.prog 81 = some [(Value.int .i64 0), (Value.int .i64 0), (Value.int .i64 0), (Value.int .i64 0), (Value.int .i64 0), (Value.int .i64 0), (Value.int .i64 0), (Value.int .i64 0), (Value.int .i64 0), (Value.int .i64 0), (Value.int .i64 0), (Value.int .i64 0)] := by kernel_rfl

theorem keyLaid : laidOutB Try.prog = true := by kernel_rfl
theorem keyR_81 : KeyR Try.prog 81 (aggK pKey) := keyR_agg (n := 12) keyLaid (of_decide_eq_true (by kernel_rfl)) (by kernel_rfl) (of_decide_eq_true (by kernel_rfl)) (of_decide_eq_true (by kernel_rfl)) (by kernel_rfl) (by kernel_rfl)
  (fun {m cs x} h => by
    obtain ⟨rfl, h0, h1, h2, h3, h4, h5, h6, h7, h8, h9, h10, h11⟩ := h
    rfl)
  (fun {m cs x} d h => by
    obtain ⟨rfl, h0, h1, h2, h3, h4, h5, h6, h7, h8, h9, h10, h11⟩ := h
    refine kl_struct Try.underlying81 (by kernel_rfl) (by kernel_rfl) ?_
    intro f hf
    simp only [List.mem_cons, List.not_mem_nil, or_false] at hf
    rcases hf with rfl | rfl
    · exact kl_int Try.underlying3 h0
    · exact kl_arr (f := (Value.int .i64)) (xs := Arr11_Int.list (x.next)) Try.underlying79 (by kernel_rfl) (by kernel_rfl) rfl rfl (fun y hy => by have hq := AllP.mem (q := (InR .i64)) (xs := Arr11_Int.list (x.next)) ⟨h1, h2, h3, h4, h5, h6, h7, h8, h9, h10, h11, trivial⟩ y hy; exact kl_int Try.underlying3 hq))
  (fun {m m' cs cs' x x'} h h' => by
    obtain ⟨rfl, _, _, _, _, _, _, _, _, _, _, _, _⟩ := h
    obtain ⟨rfl, _, _, _, _, _, _, _, _, _, _, _, _⟩ := h'
    constructor
    · intro e; simp at e; rcases x with ⟨y0, ⟨y1, y2, y3, y4, y5, y6, y7, y8, y9, y10, y11⟩⟩; rcases x' with ⟨y12, ⟨y13, y14, y15, y16, y17, y18, y19, y20, y21, y22, y23⟩⟩; simp_all
    · intro e; rw [e])

set_option maxHeartbeats 4000000 in
set_option maxRecDepth 100000 in
theorem automaton_grid_w {u : World} {m0 : Mem} {S : Segs} {w : World} (N : Nat) (n : Int) (rn : InR .i64 n) {r : List (List Int)} (hF : automaton_grid N n = some r) (ok : Ok u m0 S w) :
    Calls Try.prog 50 [.int .i64 n].toArray w fun e w' => ∃ m1 v M, e = .returned v ∧ m0.le m1 ∧ Ok u m1 (M :: S) w' ∧ OGrid m1 v r M := by
  unfold automaton_grid Go.X.grid at hF
  split at hF
  case isFalse => cases hF
  rename_i hb
  obtain rfl := Option.some.inj hF
  obtain ⟨k, rfl⟩ := Int.eq_ofNat_of_zero_le hb.1
  have hk : k * 11 ≤ LIM := by omega
  simp only [Int.toNat_natCast]
  have wk : ∀ z : Int, 0 ≤ z → z ≤ LIM → IntKind.wrap .i64 z = z := fun z h1 h2 => wrap_of (inR_i64.2 ⟨by omega, by unfold LIM at h2; omega⟩)
  refine enter Try.func50 rfl rfl rfl fun a E => ?_
  refine wp_seq ?_
  refine c_region ?_
  refine l_val E ok (y_assign rfl) rfl rfl fun a E => ?_
  refine wpList_nil ?_
  refine t_norm ?_
  refine wp_seq ?_
  refine c_region ?_
  refine l_val E ok (y_move rfl) rfl rfl fun a E => ?_
  refine l_val E ok (y_mulw rfl rfl) rfl rfl fun a E => ?_
  rw [show IntKind.wrap .i64 ((k : Int) * 11) = ((k * 11 : Nat) : Int) from by rw [wk _ (by omega) (by omega)]; omega] at E
  refine l_makeX (z := [.int .i64 0]) E ok sl_56 zero_3 rfl rfl hk rfl rfl fun b1 a w E ok => ?_
  refine l_val E ok (y_assign rfl) rfl rfl fun a E => ?_
  refine wpList_nil ?_
  refine t_norm ?_
  refine wp_seq ?_
  refine c_region ?_
  refine l_val E ok (y_move rfl) rfl rfl fun a E => ?_
  refine l_makeX (z := [.slice none 0 0]) (j := k) E ok sl_22 zero_56 rfl rfl (by omega) rfl rfl fun b2 a w E ok => ?_
  refine l_val E ok (y_assign rfl) rfl rfl fun a E => ?_
  refine wpList_nil ?_
  refine t_norm ?_
  refine wp_seq ?_
  refine wp_seq ?_
  refine c_region ?_
  refine l_val E ok (y_move rfl) rfl rfl fun a E => ?_
  refine l_val E ok (y_len Try.underlying22 rfl) rfl rfl fun a E => ?_
  refine l_val E ok (y_move rfl) rfl rfl fun a E => ?_
  refine wpList_nil ?_
  refine t_norm ?_
  refine wp_block ?_
  -- the loop: the first rows stand
  have hl1 : (reps [Value.int .i64 0] (k * 11)).length = k * 11 := by rw [reps_length]; simp
  have hl2 : (reps [Value.slice none 0 0] k).length = k := by rw [reps_length]; simp
  refine c_loop (fun i : Nat => if i < k then some (Sum.inl (i + 1)) else some (Sum.inr ()))
    (fun i a w => i ≤ k ∧ ∃ c2 : List Value, c2.length = k ∧ (∀ j, j < i → c2[j]? = some (.slice (some ⟨b1, j * 11, none⟩) 11 11)) ∧ Ok u m0 ([(b2, Obj.cells c2.toArray 56 (0, 0))] :: [(b1, Obj.cells (reps [.int .i64 0] (k * 11)).toArray 3 (0, 0))] :: S) w ∧
      Env 31 a [(3, .slice (some ⟨b1, 0, none⟩) (k * 11) (k * 11)), (4, .slice (some ⟨b2, 0, none⟩) k k), (12, .int .i64 (k : Int)), (13, .int .i64 (i : Int))])
    (fun _ e a w => e = .exit 0 ∧ ∃ c2 : List Value, c2.length = k ∧ (∀ j, j < k → c2[j]? = some (.slice (some ⟨b1, j * 11, none⟩) 11 11)) ∧ Ok u m0 ([(b2, Obj.cells c2.toArray 56 (0, 0))] :: [(b1, Obj.cells (reps [.int .i64 0] (k * 11)).toArray 3 (0, 0))] :: S) w ∧
      Env 31 a [(4, .slice (some ⟨b2, 0, none⟩) k k)]) ?_ ?_ (k + 1) 0 a w (b := ()) ?_ ?_
  · intro i a w r hI hB
    obtain ⟨hik, c2, h1, h2, ok, E⟩ := hI
    refine wp_seq ?_
    refine c_region ?_
    refine l_val E ok (y_lss rfl rfl) rfl rfl fun a E => ?_
    refine wpList_nil ?_
    refine t_norm ?_
    refine wp_seq ?_
    refine c_if E rfl (fun hc => ?_) (fun hc => ?_)
    · have hlt : i < k := by have := of_decide_eq_true hc; omega
      rw [if_pos hlt] at hB
      obtain rfl := Option.some.inj hB
      refine wp_skip ?_
      refine t_norm ?_
      refine wp_seq ?_
      refine wp_block ?_
      refine wp_seq ?_
      refine c_region ?_
      refine l_val E ok (y_move rfl) rfl rfl fun a E => ?_
      refine l_val E ok (y_assign rfl) rfl rfl fun a E => ?_
      refine wpList_nil ?_
      refine t_norm ?_
      refine c_region ?_
      refine l_val E ok (y_move rfl) rfl rfl fun a E => ?_
      refine l_val E ok (y_move rfl) rfl rfl fun a E => ?_
      refine l_val E ok (y_move rfl) rfl rfl fun a E => ?_
      refine l_val E ok (y_move rfl) rfl rfl fun a E => ?_
      refine l_val E ok (y_mulw rfl rfl) rfl rfl fun a E => ?_
      rw [show IntKind.wrap .i64 ((i : Int) * 11) = ((i * 11 : Nat) : Int) from by rw [wk _ (by omega) (by omega)]; omega] at E
      refine l_val E ok (y_move rfl) rfl rfl fun a E => ?_
      refine l_val E ok (y_addw rfl rfl) rfl rfl fun a E => ?_
      rw [show IntKind.wrap .i64 ((i : Int) + 1) = ((i + 1 : Nat) : Int) from by rw [wk _ (by omega) (by omega)]; omega] at E
      refine l_val E ok (y_mulw rfl rfl) rfl rfl fun a E => ?_
      rw [show IntKind.wrap .i64 (((i + 1 : Nat) : Int) * 11) = (((i + 1) * 11 : Nat) : Int) from by rw [wk _ (by omega) (by omega)]; omega] at E
      refine l_val E ok (y_move rfl) rfl rfl fun a E => ?_
      refine l_val E ok (y_addw rfl rfl) rfl rfl fun a E => ?_
      rw [show IntKind.wrap .i64 ((i : Int) + 1) = ((i + 1 : Nat) : Int) from by rw [wk _ (by omega) (by omega)]; omega] at E
      refine l_val E ok (y_mulw rfl rfl) rfl rfl fun a E => ?_
      rw [show IntKind.wrap .i64 (((i + 1 : Nat) : Int) * 11) = (((i + 1) * 11 : Nat) : Int) from by rw [wk _ (by omega) (by omega)]; omega] at E
      refine l_val E ok (y_slice3 (k := 1) sl_56 rfl rfl rfl rfl (by omega) (by omega) (by omega) (by omega)) rfl rfl fun a E => ?_
      rw [show (i + 1) * 11 - i * 11 = 11 from by omega, show 0 + i * 11 * 1 = i * 11 from by omega] at E
      refine l_val E ok (y_indexX (k := 1) sl_22 rfl rfl hlt) rfl rfl fun a E => ?_
      refine l_storeB (c := c2) (T := 56) (vs := [.slice (some ⟨b1, i * 11, none⟩) 11 11]) E ok 0 rfl rfl rfl inf_56 rfl rfl ⟨rfl, trivial⟩ (Nat.ble_eq_true_of_le (by simp only [List.length_cons, List.length_nil]; omega)) rfl fun w ok => ?_
      refine wpList_nil ?_
      refine b_norm ?_
      refine t_norm ?_
      refine c_region ?_
      refine l_val E ok (y_addw rfl rfl) rfl rfl fun a E => ?_
      rw [show IntKind.wrap .i64 ((i : Int) + 1) = ((i + 1 : Nat) : Int) from by rw [wk _ (by omega) (by omega)]; omega] at E
      refine l_val E ok (y_move rfl) rfl rfl fun a E => ?_
      refine wpList_nil ?_
      refine step_n ⟨by omega, _, ?_, ?_, ok, E.keep [3, 4, 12, 13]⟩
      · rw [wr_length]; exact h1
      · intro j hj
        have hw := wr_get [.slice (some ⟨b1, i * 11, none⟩) 11 11] c2 (0 + i * 1) j (by simp only [List.length_cons, List.length_nil]; omega)
        rw [hw]
        by_cases hji : j = i
        · subst hji
          rw [if_pos (by simp only [List.length_cons, List.length_nil]; omega)]
          simp
        · rw [if_neg (by simp only [List.length_cons, List.length_nil]; omega)]
          exact h2 j (by omega)
    · have hge : ¬ i < k := by have := of_decide_eq_false hc; omega
      rw [if_neg hge] at hB
      obtain rfl := Option.some.inj hB
      refine wp_exit ?_
      refine t_exit ?_
      refine step_o (by nofun) ⟨rfl, c2, h1, fun j hj => h2 j (by omega), ok, E.keep [4]⟩
  · intro e a w _ hO
    obtain ⟨rfl, c2, h1, h2, ok, E⟩ := hO
    refine b_hit ?_
    refine t_norm ?_
    refine wp_seq ?_
    refine c_region ?_
    refine l_val E ok (y_move rfl) rfl rfl fun a E => ?_
    refine l_val E ok (y_assign rfl) rfl rfl fun a E => ?_
    refine wpList_nil ?_
    refine t_norm ?_
    refine wp_ret ?_
    obtain ⟨m1, hle, ok, hfz⟩ := ok.freeze
    refine c_ret2 [.t 2 (.slice (some ⟨b2, 0, none⟩) k k)] E.d rfl ⟨rv_t E rfl, trivial⟩ ⟨m1, _, _, rfl, hle, ok, b2, b1, _, _, ?_, rfl, ?_, ?_, ?_⟩
    · simp [List.length_replicate, retV, RV.val]
    · rw [List.length_replicate]; omega
    · rw [List.length_replicate, hl1]
    · intro i row hi
      rw [List.getElem?_replicate] at hi
      split at hi
      case isFalse => cases hi
      rename_i hik
      obtain rfl := Option.some.inj hi
      refine ⟨List.length_replicate, ?_, fun j x hj => ?_⟩
      · have := hfz (b2, Obj.cells c2.toArray 56 (0, 0)) (by simp)
        simp only at this
        simp [Mem.cell, this, h2 i hik]
      · rw [List.getElem?_replicate] at hj
        split at hj
        case isFalse => cases hj
        rename_i hj11
        obtain rfl := Option.some.inj hj
        refine ⟨?_, by decide⟩
        have := reps_get [Value.int .i64 0] (k * 11) (i * 11 + j) (by have := Nat.mul_le_mul_right 11 (show i + 1 ≤ k by omega); omega)
        have := congrArg (fun l => l[0]?) this
        simpa [List.getElem?_take, List.getElem?_drop] using this
  · have : ∀ j i, i + j = k → iter (fun i : Nat => if i < k then some (Sum.inl (i + 1)) else some (Sum.inr ())) (j + 1) i = some () := by
      intro j
      induction j with
      | zero => intro i hi; simp only [iter]; rw [if_neg (by omega)]
      | succ j ih => intro i hi; rw [iter]; rw [if_pos (by omega)]; exact ih (i + 1) (by omega)
    exact this k 0 (by omega)
  · exact ⟨Nat.zero_le _, _, hl2, fun j hj => absurd hj (Nat.not_lt_zero j), ok, E.keep [3, 4, 12, 13]⟩

def automaton_reachable_R (u : World) (m0 : Mem) (S : Segs) (r : DFA) (a : Act) (w : World) : Prop :=
  ∃ m1 v0, m0.le m1 ∧ Ok u m1 S w ∧ a.defers = [] ∧ RVs Try.prog a w [.c 2 29 (.agg v0.toArray)] ∧ pDFA m1 v0 r
set_option maxHeartbeats 4000000 in
set_option maxRecDepth 100000 in
theorem automaton_reachable_w {u : World} {m0 : Mem} {S : Segs} {w : World} (N : Nat) (vd_0 : List Value) (d_0 : DFA) (hd_0 : pDFA m0 vd_0 d_0) {r : DFA} (hF : automaton_reachable N d_0 = some r) (ok : Ok u m0 S w) :
    Calls Try.prog 48 [.agg vd_0.toArray].toArray w fun e w' => ∃ m1 v0, e = .returned (.agg v0.toArray) ∧ m0.le m1 ∧ Ok u m1 S w' ∧ pDFA m1 v0 r := by
  obtain ⟨c2, c4, rfl, r1, h3, h5⟩ := hd_0
  have le_m0 := Mem.le.refl m0
  unfold automaton_reachable at hF
  have fin : ∀ a w, automaton_reachable_R u m0 S r a w → bodyPost Try.prog Try.f48 (fun e w' => ∃ m1 v0, e = .returned (.agg v0.toArray) ∧ m0.le m1 ∧ Ok u m1 S w' ∧ pDFA m1 v0 r) .ret a w := by
    intro a w h
    obtain ⟨m1, v0, hle, ok, hd, hrv, h0⟩ := h
    exact c_ret2 [.c 2 29 (.agg v0.toArray)] hd rfl hrv ⟨m1, v0, rfl, hle, ok, h0⟩
  refine enter Try.func48 rfl rfl rfl fun a E => ?_
  refine wp_seq ?_
  refine c_region ?_
  refine l_box E ok rfl rfl rfl fun b6 a w E ok => ?_
  refine l_alloc E ok zero_29 rfl rfl fun b7 a w E ok => ?_
  refine wpList_nil ?_
  refine t_norm ?_
  refine wp_seq ?_
  refine c_region ?_
  refine l_val E ok (y_fieldAddr fo_29_1 rfl) rfl rfl fun a E => ?_
  refine l_val E ok (y_load one_22 rfl (Holds.own 1 rfl rfl)) rfl rfl fun a E => ?_
  refine l_val E ok (y_lenL sl_22 h3 rfl) rfl rfl fun a E => ?_
  obtain ⟨l8, e9, hF⟩ := bnd hF
  refine l_make (R := (pI .i64)) E ok sl_56 zero_3 rfl (pI_mk (show InR .i64 0 by decide)) rfl e9 rfl rfl fun c10 M11 a w E ok h12 => ?_
  refine l_val E ok (y_assign rfl) rfl rfl fun a E => ?_
  refine wpList_nil ?_
  refine t_norm ?_
  refine wp_seq ?_
  refine wp_seq ?_
  refine c_region ?_
  refine l_val E ok (y_move rfl) rfl rfl fun a E => ?_
  refine l_val E ok (y_lenR sl_56 h12 rfl) rfl rfl fun a E => ?_
  refine l_val E ok (y_move rfl) rfl rfl fun a E => ?_
  refine wpList_nil ?_
  refine t_norm ?_
  refine wp_block ?_
  obtain ⟨o18, hL, hF⟩ := bnd hF
  refine c_loop _ (fun (s : Int × (List (Int))) a w => ∃ c20 M21, Ok u m0 (M21 :: [(b7, Obj.cells [(Value.int .i64 0), (Value.slice none 0 0), (Value.slice none 0 0)].toArray 29 (0, 0))] :: [(b6, Obj.cells [(Value.int .i64 d_0.Start), c2, c4].toArray 29 (0, 0))] :: S) w ∧ Env 116 a [(1, (Value.pointer (some ⟨b6, 0, none⟩))), (2, (Value.pointer (some ⟨b7, 0, none⟩))), (3, c20), (19, (Value.int .i64 (l8.length : Int))), (20, (Value.int .i64 s.1))] ∧ InR .i64 s.1 ∧ ORow 3 1 (pI .i64) m0 c20 s.2 M21) (fun (b : ((List (Int)))) e a w => e = (.exit 0) ∧ ∃ c511 M512, Ok u m0 (M512 :: [(b7, Obj.cells [(Value.int .i64 0), (Value.slice none 0 0), (Value.slice none 0 0)].toArray 29 (0, 0))] :: [(b6, Obj.cells [(Value.int .i64 d_0.Start), c2, c4].toArray 29 (0, 0))] :: S) w ∧ Env 116 a [(1, (Value.pointer (some ⟨b6, 0, none⟩))), (2, (Value.pointer (some ⟨b7, 0, none⟩))), (3, c511)] ∧ ORow 3 1 (pI .i64) m0 c511 b M512) ?_ ?_ N _ a w hL ⟨c10, M11, ok, E.keep [1, 2, 3, 19, 20], (show InR .i64 (0) by decide), h12⟩
  · rintro ⟨x_23, number_24⟩ a w r ⟨c26, M27, ok, E, r25, h28⟩ hF
    replace hF : automaton_reachable_b1 N l8 x_23 number_24 = some r := hF
    unfold automaton_reachable_b1 at hF
    refine wp_seq ?_
    refine c_region ?_
    refine l_val E ok (y_lss rfl rfl) rfl rfl fun a E => ?_
    refine wpList_nil ?_
    refine t_norm ?_
    refine wp_seq ?_
    refine c_if E rfl (fun hc29 => ?_) (fun hc29 => ?_)
    rotate_left
    · replace hF := cond_f hc29 hF
      refine wp_exit ?_
      refine t_exit ?_
      obtain rfl := Option.some.inj hF
      exact step_o (by nofun) (⟨rfl, ⟨c26, M27, ok, E.keep [1, 2, 3], h28⟩⟩)
    replace hF := cond_t hc29 hF
    refine wp_skip ?_
    refine t_norm ?_
    refine wp_seq ?_
    refine wp_block ?_
    refine wp_seq ?_
    refine c_region ?_
    refine l_val E ok (y_move rfl) rfl rfl fun a E => ?_
    refine l_val E ok (y_assign rfl) rfl rfl fun a E => ?_
    refine wpList_nil ?_
    refine t_norm ?_
    refine c_region ?_
    refine l_val E ok (y_move rfl) rfl rfl fun a E => ?_
    refine l_val E ok (y_move rfl) rfl rfl fun a E => ?_
    obtain ⟨x30, e31, hF⟩ := bnd hF
    obtain ⟨b32, o33, hp34, yy35⟩ := orowAt sl_56 h28 e31 (P := Try.prog) (X := .tmp 23) (I := .tmp 24) (kd := .i64) (ev_of E rfl) (ev_of E rfl)
    refine l_val E ok (yy35 _ _) rfl rfl fun a E => ?_
    obtain ⟨l36, e37, hF⟩ := bnd hF
    refine l_storeRow (R := (pI .i64)) E ok 0 rfl h28 e31 hp34 rfl rfl inf_3 rfl rfl rfl ⟨rfl, trivial⟩ (pI_mk (show InR .i64 (-1) by decide)) e37 rfl fun M38 w ok h39 => ?_
    refine wpList_nil ?_
    refine b_norm ?_
    refine t_norm ?_
    refine c_region ?_
    refine l_val E ok (y_add rfl rfl (InR.inc r25 (ORow.InR h12) hc29)) rfl rfl fun a E => ?_
    refine l_val E ok (y_move rfl) rfl rfl fun a E => ?_
    refine wpList_nil ?_
    obtain rfl := Option.some.inj hF
    exact step_n ⟨c26, M38, ok, E.keep [1, 2, 3, 19, 20], (InR.inc r25 (ORow.InR h12) hc29), h39⟩
  intro e a w _ hO
  obtain ⟨rfl, c40, M41, ok, E, h42⟩ := hO
  refine b_hit ?_
  refine t_norm ?_
  refine wp_seq ?_
  refine c_region ?_
  refine l_val E ok (y_fieldAddr fo_29_0 rfl) rfl rfl fun a E => ?_
  refine l_val E ok (y_load one_3 rfl (Holds.own 2 rfl rfl)) rfl rfl fun a E => ?_
  refine l_slit (R := (pI .i64)) (xo := [.tmp 28]) (xs := ([d_0.Start] : List (Int))) E ok sl_56 zero_3 rfl ⟨⟨_, rfl, rfl, (pI_mk r1)⟩, trivial⟩ rfl rfl rfl rfl fun c43 M44 a w E ok h45 => ?_
  refine l_val E ok (y_assign rfl) rfl rfl fun a E => ?_
  refine wpList_nil ?_
  refine t_norm ?_
  refine wp_seq ?_
  refine c_region ?_
  refine l_val E ok (y_move rfl) rfl rfl fun a E => ?_
  refine l_val E ok (y_fieldAddr fo_29_0 rfl) rfl rfl fun a E => ?_
  refine l_val E ok (y_load one_3 rfl (Holds.own 3 rfl rfl)) rfl rfl fun a E => ?_
  obtain ⟨x46, e47, hF⟩ := bnd hF
  obtain ⟨b48, o49, hp50, yy51⟩ := orowAt sl_56 h42 e47 (P := Try.prog) (X := .tmp 30) (I := .tmp 32) (kd := .i64) (ev_of E rfl) (ev_of E rfl)
  refine l_val E ok (yy51 _ _) rfl rfl fun a E => ?_
  obtain ⟨l52, e53, hF⟩ := bnd hF
  refine l_storeRow (R := (pI .i64)) E ok 1 rfl h42 e47 hp50 rfl rfl inf_3 rfl rfl rfl ⟨rfl, trivial⟩ (pI_mk (show InR .i64 (0) by decide)) e53 rfl fun M54 w ok h55 => ?_
  refine wpList_nil ?_
  refine t_norm ?_
  refine wp_seq ?_
  refine wp_seq ?_
  refine c_region ?_
  refine l_val E ok (y_assign rfl) rfl rfl fun a E => ?_
  refine wpList_nil ?_
  refine t_norm ?_
  refine wp_block ?_
  obtain ⟨o67, hL, hF⟩ := bnd hF
  refine c_loop _ (fun (s : (List (Int)) × Int × (List (Int))) a w => ∃ c68 M69 c72 M73, Ok u m0 (M69 :: M73 :: [(b7, Obj.cells [(Value.int .i64 0), (Value.slice none 0 0), (Value.slice none 0 0)].toArray 29 (0, 0))] :: [(b6, Obj.cells [(Value.int .i64 d_0.Start), c2, c4].toArray 29 (0, 0))] :: S) w ∧ Env 116 a [(1, (Value.pointer (some ⟨b6, 0, none⟩))), (2, (Value.pointer (some ⟨b7, 0, none⟩))), (3, c72), (5, c68), (6, (Value.int .i64 s.2.1))] ∧ ORow 3 1 (pI .i64) m0 c68 s.1 M69 ∧ InR .i64 s.2.1 ∧ ORow 3 1 (pI .i64) m0 c72 s.2.2 M73) (fun (b : ((List (Int)) × (List (Int)))) e a w => e = (.exit 2) ∧ ∃ c505 M506 c508 M509, Ok u m0 (M509 :: M506 :: [(b7, Obj.cells [(Value.int .i64 0), (Value.slice none 0 0), (Value.slice none 0 0)].toArray 29 (0, 0))] :: [(b6, Obj.cells [(Value.int .i64 d_0.Start), c2, c4].toArray 29 (0, 0))] :: S) w ∧ Env 116 a [(1, (Value.pointer (some ⟨b6, 0, none⟩))), (2, (Value.pointer (some ⟨b7, 0, none⟩))), (3, c505), (5, c508)] ∧ ORow 3 1 (pI .i64) m0 c505 b.1 M506 ∧ ORow 3 1 (pI .i64) m0 c508 b.2 M509) ?_ ?_ N _ a w hL ⟨c43, M44, c40, M54, ok, E.keep [1, 2, 3, 5, 6], h45, (show InR .i64 (0) by decide), h55⟩
  · as_aux_lemma =>
      rintro ⟨order_75, i_76, number_77⟩ a w r ⟨c78, M79, c82, M83, ok, E, h80, r81, h84⟩ hF
      replace hF : automaton_reachable_b2 N d_0 order_75 i_76 number_77 = some r := hF
      unfold automaton_reachable_b2 at hF
      refine wp_seq ?_
      refine wp_seq ?_
      refine c_region ?_
      refine l_val E ok (y_move rfl) rfl rfl fun a E => ?_
      refine l_val E ok (y_move rfl) rfl rfl fun a E => ?_
      refine l_val E ok (y_lenR sl_56 h80 rfl) rfl rfl fun a E => ?_
      refine l_val E ok (y_lss rfl rfl) rfl rfl fun a E => ?_
      refine wpList_nil ?_
      refine t_norm ?_
      refine c_if E rfl (fun hc85 => ?_) (fun hc85 => ?_)
      rotate_left
      · replace hF := cond_f hc85 hF
        refine wp_exit ?_
        refine t_exit ?_
        obtain rfl := Option.some.inj hF
        exact step_o (by nofun) (⟨rfl, ⟨c82, M83, c78, M79, ok, E.keep [1, 2, 3, 5], h84, h80⟩⟩)
      replace hF := cond_t hc85 hF
      refine wp_skip ?_
      refine t_norm ?_
      refine wp_seq ?_
      refine wp_block ?_
      refine wp_seq ?_
      refine c_draw (by kernel_rfl) (by kernel_rfl) ok ?_
      refine q_val E (y_fieldAddr fo_29_1 rfl) rfl rfl fun a E => ?_
      refine q_val E (y_load one_22 rfl (Holds.own 3 rfl rfl)) rfl rfl fun a E => ?_
      refine q_val E (y_move rfl) rfl rfl fun a E => ?_
      refine q_val E (y_move rfl) rfl rfl fun a E => ?_
      obtain ⟨x86, e87, hF⟩ := bnd hF
      obtain ⟨b88, o89, hp90, yy91⟩ := orowAt sl_56 h80 e87 (P := Try.prog) (X := .tmp 42) (I := .tmp 43) (kd := .i64) (ev_of E rfl) (ev_of E rfl)
      refine q_val E (yy91 _ _) rfl rfl fun a E => ?_
      obtain ⟨es92, hl93, rr94, hh95⟩ := orowGet h80 e87 hp90 (by decide)
      obtain ⟨rfl, r96⟩ := rr94
      refine q_val E (y_load one_3 rfl (hh95 _ _ _ 0 rfl)) rfl rfl fun a E => ?_
      obtain ⟨x97, e98, hF⟩ := bnd hF
      obtain ⟨b99, o100, es101, hl102, rr103, at104, yy105⟩ := idxAt sl_22 h3 e98 (P := Try.prog) (X := .tmp 41) (I := .tmp 45) (kd := .i64) (ev_of E rfl) (ev_of E rfl)
      obtain ⟨c106, rfl, h107⟩ := pL_cell rr103
      refine q_val E (yy105 _ _) rfl rfl fun a E => ?_
      refine q_val E (y_load one_56 rfl (Holds.ro at104)) rfl rfl fun a E => ?_
      refine q_val E (y_lenL sl_56 h107 rfl) rfl rfl fun a E => ?_
      refine q_val E (y_move rfl) rfl rfl fun a E => ?_
      refine wpQuiet_nil ?_
      intro w ok
      refine t_norm ?_
      refine wp_block ?_
      obtain ⟨o119, hL, hF⟩ := bnd hF
      refine c_loop _ (fun (s : (List (Int)) × Int × (List (Int))) a w => ∃ c120 M121 c124 M125, Ok u m0 (M121 :: M125 :: [(b7, Obj.cells [(Value.int .i64 0), (Value.slice none 0 0), (Value.slice none 0 0)].toArray 29 (0, 0))] :: [(b6, Obj.cells [(Value.int .i64 d_0.Start), c2, c4].toArray 29 (0, 0))] :: S) w ∧ Env 116 a [(1, (Value.pointer (some ⟨b6, 0, none⟩))), (2, (Value.pointer (some ⟨b7, 0, none⟩))), (3, c124), (5, c120), (6, (Value.int .i64 i_76)), (47, c106), (48, (Value.int .i64 (x97.length : Int))), (49, (Value.int .i64 s.2.1))] ∧ ORow 3 1 (pI .i64) m0 c120 s.1 M121 ∧ InR .i64 s.2.1 ∧ ORow 3 1 (pI .i64) m0 c124 s.2.2 M125) (fun (b : ((List (Int)) × (List (Int)))) e a w => e = (.exit 4) ∧ ∃ c184 M185 c187 M188, Ok u m0 (M188 :: M185 :: [(b7, Obj.cells [(Value.int .i64 0), (Value.slice none 0 0), (Value.slice none 0 0)].toArray 29 (0, 0))] :: [(b6, Obj.cells [(Value.int .i64 d_0.Start), c2, c4].toArray 29 (0, 0))] :: S) w ∧ Env 116 a [(1, (Value.pointer (some ⟨b6, 0, none⟩))), (2, (Value.pointer (some ⟨b7, 0, none⟩))), (3, c184), (5, c187), (6, (Value.int .i64 i_76))] ∧ ORow 3 1 (pI .i64) m0 c184 b.1 M185 ∧ ORow 3 1 (pI .i64) m0 c187 b.2 M188) ?_ ?_ N _ a w hL ⟨c78, M79, c82, M83, ok, E.keep [1, 2, 3, 5, 6, 47, 48, 49], h80, (show InR .i64 (0) by decide), h84⟩
      rotate_left
      · intro e a w _ hO
        obtain ⟨rfl, c178, M179, c181, M182, ok, E, h180, h183⟩ := hO
        refine b_hit ?_
        refine b_norm ?_
        refine t_norm ?_
        refine c_region ?_
        refine l_val E ok (y_move rfl) rfl rfl fun a E => ?_
        refine l_val E ok (y_add rfl rfl (InR.inc r81 (ORow.InR h80) hc85)) rfl rfl fun a E => ?_
        refine l_val E ok (y_assign rfl) rfl rfl fun a E => ?_
        refine wpList_nil ?_
        obtain rfl := Option.some.inj hF
        exact step_n ⟨c181, M182, c178, M179, ok, E.keep [1, 2, 3, 5, 6], h183, (InR.inc r81 (ORow.InR h80) hc85), h180⟩
      rintro ⟨order_127, x_128, number_129⟩ a w r ⟨c130, M131, c134, M135, ok, E, h132, r133, h136⟩ hF
      replace hF : automaton_reachable_b3 N x97 order_127 x_128 number_129 = some r := hF
      unfold automaton_reachable_b3 at hF
      refine wp_seq ?_
      refine c_region ?_
      refine l_val E ok (y_lss rfl rfl) rfl rfl fun a E => ?_
      refine wpList_nil ?_
      refine t_norm ?_
      refine wp_seq ?_
      refine c_if E rfl (fun hc137 => ?_) (fun hc137 => ?_)
      rotate_left
      · replace hF := cond_f hc137 hF
        refine wp_exit ?_
        refine t_exit ?_
        obtain rfl := Option.some.inj hF
        exact step_o (by nofun) (⟨rfl, ⟨c134, M135, c130, M131, ok, E.keep [1, 2, 3, 5, 6], h136, h132⟩⟩)
      replace hF := cond_t hc137 hF
      refine wp_skip ?_
      refine t_norm ?_
      refine wp_seq ?_
      refine wp_block ?_
      refine wp_seq ?_
      refine c_region ?_
      obtain ⟨x138, e139, hF⟩ := bnd hF
      obtain ⟨b140, o141, es142, hl143, rr144, at145, yy146⟩ := idxAt sl_56 h107 e139 (P := Try.prog) (X := .tmp 47) (I := .tmp 49) (kd := .i64) (ev_of E rfl) (ev_of E rfl)
      obtain ⟨rfl, r147⟩ := rr144
      refine l_val E ok (yy146 _ _) rfl rfl fun a E => ?_
      refine l_val E ok (y_load one_3 rfl (Holds.ro at145)) rfl rfl fun a E => ?_
      refine l_val E ok (y_assign rfl) rfl rfl fun a E => ?_
      refine wpList_nil ?_
      refine t_norm ?_
      refine wp_seq ?_
      refine c_region ?_
      refine l_val E ok (y_move rfl) rfl rfl fun a E => ?_
      refine l_val E ok (y_move rfl) rfl rfl fun a E => ?_
      obtain ⟨x148, e149, hF⟩ := bnd hF
      obtain ⟨b150, o151, hp152, yy153⟩ := orowAt sl_56 h136 e149 (P := Try.prog) (X := .tmp 53) (I := .tmp 54) (kd := .i64) (ev_of E rfl) (ev_of E rfl)
      refine l_val E ok (yy153 _ _) rfl rfl fun a E => ?_
      obtain ⟨es154, hl155, rr156, hh157⟩ := orowGet h136 e149 hp152 (by decide)
      obtain ⟨rfl, r158⟩ := rr156
      refine l_val E ok (y_load one_3 rfl (hh157 _ _ _ 1 rfl)) rfl rfl fun a E => ?_
      refine l_val E ok (y_lss rfl rfl) rfl rfl fun a E => ?_
      refine wpList_nil ?_
      refine t_norm ?_
      refine c_if E rfl (fun hc159 => ?_) (fun hc159 => ?_)
      rotate_left
      · replace hF := cond_f hc159 hF
        refine wp_skip ?_
        refine b_norm ?_
        refine t_norm ?_
        refine c_region ?_
        refine l_val E ok (y_add rfl rfl (InR.inc r133 (pL_InR h107) hc137)) rfl rfl fun a E => ?_
        refine l_val E ok (y_move rfl) rfl rfl fun a E => ?_
        refine wpList_nil ?_
        obtain rfl := Option.some.inj hF
        exact step_n ⟨c130, M131, c134, M135, ok, E.keep [1, 2, 3, 5, 6, 47, 48, 49], h132, (InR.inc r133 (pL_InR h107) hc137), h136⟩
      replace hF := cond_t hc159 hF
      refine wp_seq ?_
      refine c_region ?_
      refine l_val E ok (y_move rfl) rfl rfl fun a E => ?_
      refine l_val E ok (y_move rfl) rfl rfl fun a E => ?_
      refine l_val E ok (y_move rfl) rfl rfl fun a E => ?_
      refine l_val E ok (y_lenR sl_56 h132 rfl) rfl rfl fun a E => ?_
      obtain ⟨x160, e161, hF⟩ := bnd hF
      obtain ⟨b162, o163, hp164, yy165⟩ := orowAt sl_56 h136 e161 (P := Try.prog) (X := .tmp 58) (I := .tmp 59) (kd := .i64) (ev_of E rfl) (ev_of E rfl)
      refine l_val E ok (yy165 _ _) rfl rfl fun a E => ?_
      obtain ⟨l166, e167, hF⟩ := bnd hF
      refine l_storeRow (R := (pI .i64)) E ok 1 rfl h136 e161 hp164 rfl rfl inf_3 rfl rfl rfl ⟨rfl, trivial⟩ (pI_mk (ORow.InR h132)) e167 rfl fun M168 w ok h169 => ?_
      refine wpList_nil ?_
      refine t_norm ?_
      refine c_region ?_
      refine l_val E ok (y_move rfl) rfl rfl fun a E => ?_
      refine l_val E ok (y_move rfl) rfl rfl fun a E => ?_
      refine l_slit (R := (pI .i64)) (xo := [.tmp 64]) (xs := ([x138] : List (Int))) E ok sl_56 zero_3 rfl ⟨⟨_, rfl, rfl, (pI_mk r147)⟩, trivial⟩ rfl rfl rfl rfl fun c170 M171 a w E ok h172 => ?_
      obtain ⟨l173, e174, hF⟩ := bnd hF
      refine l_app (R := (pI .i64)) E ok 1 (mI .i64) sl_56 Try.underlying56 rfl h132 (SrcOK.ofRow h172 0 rfl ok) e174 ⟨_, zero_3, rfl⟩ rfl rfl rfl rfl fun c175 M176 a w E ok h177 => ?_
      refine l_val E ok (y_assign rfl) rfl rfl fun a E => ?_
      refine wpList_nil ?_
      refine b_norm ?_
      refine t_norm ?_
      refine c_region ?_
      refine l_val E ok (y_add rfl rfl (InR.inc r133 (pL_InR h107) hc137)) rfl rfl fun a E => ?_
      refine l_val E ok (y_move rfl) rfl rfl fun a E => ?_
      refine wpList_nil ?_
      obtain rfl := Option.some.inj hF
      exact step_n ⟨c175, M176, c134, M168, (ok.pk 5 [1, 2, 3, 4] rfl (by decide)), E.keep [1, 2, 3, 5, 6, 47, 48, 49], h177, (InR.inc r133 (pL_InR h107) hc137), h169⟩
  intro e a w _ hO
  obtain ⟨rfl, c190, M191, c193, M194, ok, E, h192, h195⟩ := hO
  refine b_hit ?_
  refine t_norm ?_
  refine wp_seq ?_
  obtain ⟨o196, hJ, hF⟩ := bnd hF
  refine c_mono (Q' := fun e a w => e = .normal ∧ ∃ m197 b205 c199 M200 c202 M203, m0.le m197 ∧ Ok u m197 ([(b205, Obj.cells [(Value.int .i64 o196.Start), c199, c202].toArray 29 (0, 0))] :: M203 :: M200 :: M194 :: M191 :: [(b7, Obj.cells [(Value.int .i64 0), (Value.slice none 0 0), (Value.slice none 0 0)].toArray 29 (0, 0))] :: [(b6, Obj.cells [(Value.int .i64 d_0.Start), c2, c4].toArray 29 (0, 0))] :: S) w ∧ Env 116 a [(1, (Value.pointer (some ⟨b6, 0, none⟩))), (2, (Value.pointer (some ⟨b7, 0, none⟩))), (3, c190), (5, c193), (9, (Value.pointer (some ⟨b205, 0, none⟩)))] ∧ InR .i64 o196.Start ∧ OGrid m197 c199 o196.Next M200 ∧ ORow 4 1 pB m197 c202 o196.Accept M203) ?_ ?_
  · as_aux_lemma =>
      replace hF := hJ
      clear hJ
      obtain ⟨g206, e207, hF⟩ := bnd hF
      obtain ⟨l212, e213, hF⟩ := bnd hF
      obtain rfl := Option.some.inj hF
      refine k_begin [] (Cls u m0 (M194 :: M191 :: [(b7, Obj.cells [(Value.int .i64 0), (Value.slice none 0 0), (Value.slice none 0 0)].toArray 29 (0, 0))] :: [(b6, Obj.cells [(Value.int .i64 d_0.Start), c2, c4].toArray 29 (0, 0))] :: [])) (Cls u m0 (M194 :: M191 :: [(b7, Obj.cells [(Value.int .i64 0), (Value.slice none 0 0), (Value.slice none 0 0)].toArray 29 (0, 0))] :: [(b6, Obj.cells [(Value.int .i64 d_0.Start), c2, c4].toArray 29 (0, 0))] :: [])) (by kernel_rfl) ?_
      intro w hw
      replace ok := okdrew ok hw
      clear hw
      refine k_next (cl1 ⟨m0, _, le_m0, ok, ⟨memAt 0 rfl, memAt 1 rfl, memAt 2 rfl, memAt 3 rfl, trivial⟩⟩ ⟨m0, _, le_m0, ok, ⟨memAt 0 rfl, memAt 1 rfl, memAt 2 rfl, memAt 3 rfl, trivial⟩⟩) fun hT => ?_
      refine k_take 0 E rfl (by kernel_rfl) nP hT (y_move rfl) rfl rfl fun a E => ?_
      refine k_take 1 E rfl (by kernel_rfl) nP hT (y_lenR sl_56 h195 rfl) rfl rfl fun a E => ?_
      refine k_take 3 E rfl (by kernel_rfl) nP hT (y_move rfl) rfl rfl fun a E => ?_
      refine k_take 4 E rfl (by kernel_rfl) nP hT (y_lenR sl_56 h195 rfl) rfl rfl fun a E => ?_
      refine k_all [2, 5, 7] (by kernel_rfl) rfl (all_c ?_ (all_c ?_ (all_c ?_ (all_n))))
      · refine wpOp_of_list (o := _) rfl ?_
        refine l_call E go_50 rfl (automaton_grid_w N (o67.2.length : Int) (ORow.InR h195) e207 ok) rfl rfl ?_
        rintro _ w ⟨m218, c219, M220, rfl, hle, ok, h221⟩
        have le_m0 := le_m0.trans hle
        have h3 := (mL (mL (mI .i64))).up hle h3
        have h5 := (mL mB).up hle h5
        have h192 := ORow.up (mI .i64) hle h192
        have h195 := ORow.up (mI .i64) hle h195
        refine ⟨_, rfl, fun a E => ?_⟩
        refine wpList_nil ?_
        refine t_norm ?_
        refine k_next (cl1 ⟨m218, _, le_m0, ok, ⟨memAt 1 rfl, memAt 2 rfl, memAt 3 rfl, memAt 4 rfl, trivial⟩⟩ ⟨m218, _, le_m0, ok, ⟨memAt 1 rfl, memAt 2 rfl, memAt 3 rfl, memAt 4 rfl, trivial⟩⟩) fun hT => ?_
        refine k_all [5, 7] (by kernel_rfl) rfl (all_c ?_ (all_c ?_ (all_n)))
        · refine wpOp_of_list (o := _) rfl ?_
          refine l_make (R := pB) E ok sl_23 zero_4 rfl pB_mk rfl e213 rfl rfl fun c222 M223 a w E ok h224 => ?_
          refine wpList_nil ?_
          refine t_norm ?_
          refine k_next (cl1 ⟨m218, _, le_m0, ok, ⟨memAt 2 rfl, memAt 3 rfl, memAt 4 rfl, memAt 5 rfl, trivial⟩⟩ ⟨m218, _, le_m0, ok, ⟨memAt 2 rfl, memAt 3 rfl, memAt 4 rfl, memAt 5 rfl, trivial⟩⟩) fun hT => ?_
          refine k_take 6 E rfl (by kernel_rfl) nP hT (y_build (ps := [(1, .tmp 70), (2, .tmp 73)]) (qs := [(1, [c219]), (2, [c222])]) (cs := [(Value.int .i64 0), c219, c222]) zero_29 places_29 rfl ⟨rfl, (OGrid.cells h221), rfl, ⟨rfl, (ORow.cells h224), rfl, trivial⟩⟩ rfl) rfl rfl fun a E => ?_
          refine k_all [7] (by kernel_rfl) rfl (one_c ?_)
          · refine wpOp_of_list (o := _) rfl ?_
            refine l_alloc E ok zero_29 rfl rfl fun b225 a w E ok => ?_
            refine wpList_nil ?_
            refine t_norm ?_
            refine k_next (cl1 ⟨m218, _, le_m0, ok, ⟨memAt 3 rfl, memAt 4 rfl, memAt 5 rfl, memAt 6 rfl, trivial⟩⟩ ⟨m218, _, le_m0, ok, ⟨memAt 3 rfl, memAt 4 rfl, memAt 5 rfl, memAt 6 rfl, trivial⟩⟩) fun hT => ?_
            refine k_all [8] (by kernel_rfl) rfl (one_c ?_)
            · refine wpOp_of_list (o := _) rfl ?_
              refine l_storeB E ok 0 rfl rfl rfl inf_29 rfl rfl ⟨rfl, (OGrid.one h221), (ORow.one h224), trivial⟩ rfl rfl fun w ok => ?_
              refine wpList_nil ?_
              refine t_norm ?_
              refine k_next (cl1 ⟨m218, _, le_m0, ok, ⟨memAt 3 rfl, memAt 4 rfl, memAt 5 rfl, memAt 6 rfl, trivial⟩⟩ ⟨m218, _, le_m0, ok, ⟨memAt 3 rfl, memAt 4 rfl, memAt 5 rfl, memAt 6 rfl, trivial⟩⟩) fun hT => ?_
              refine k_done (by kernel_rfl) ?_
              exact ⟨rfl, ⟨m218, b225, c219, M220, c222, M223, le_m0, ok, E.keep [1, 2, 3, 5, 9], (show InR .i64 0 by decide), h221, h224⟩⟩
        refine wpOp_of_list (o := _) rfl ?_
        refine l_alloc E ok zero_29 rfl rfl fun b226 a w E ok => ?_
        refine wpList_nil ?_
        refine t_norm ?_
        refine k_next (cl1 ⟨m218, _, le_m0, ok, ⟨memAt 2 rfl, memAt 3 rfl, memAt 4 rfl, memAt 5 rfl, trivial⟩⟩ ⟨m218, _, le_m0, ok, ⟨memAt 2 rfl, memAt 3 rfl, memAt 4 rfl, memAt 5 rfl, trivial⟩⟩) fun hT => ?_
        refine k_all [5] (by kernel_rfl) rfl (one_c ?_)
        · refine wpOp_of_list (o := _) rfl ?_
          refine l_make (R := pB) E ok sl_23 zero_4 rfl pB_mk rfl e213 rfl rfl fun c227 M228 a w E ok h229 => ?_
          refine wpList_nil ?_
          refine t_norm ?_
          refine k_next (cl1 ⟨m218, _, le_m0, ok, ⟨memAt 3 rfl, memAt 4 rfl, memAt 5 rfl, memAt 6 rfl, trivial⟩⟩ ⟨m218, _, le_m0, ok, ⟨memAt 3 rfl, memAt 4 rfl, memAt 5 rfl, memAt 6 rfl, trivial⟩⟩) fun hT => ?_
          refine k_take 6 E rfl (by kernel_rfl) nP hT (y_build (ps := [(1, .tmp 70), (2, .tmp 73)]) (qs := [(1, [c219]), (2, [c227])]) (cs := [(Value.int .i64 0), c219, c227]) zero_29 places_29 rfl ⟨rfl, (OGrid.cells h221), rfl, ⟨rfl, (ORow.cells h229), rfl, trivial⟩⟩ rfl) rfl rfl fun a E => ?_
          refine k_all [8] (by kernel_rfl) rfl (one_c ?_)
          · refine wpOp_of_list (o := _) rfl ?_
            refine l_storeB E ok 1 rfl rfl rfl inf_29 rfl rfl ⟨rfl, (OGrid.one h221), (ORow.one h229), trivial⟩ rfl rfl fun w ok => ?_
            refine wpList_nil ?_
            refine t_norm ?_
            refine k_next (cl1 ⟨m218, _, le_m0, ok, ⟨memAt 3 rfl, memAt 4 rfl, memAt 5 rfl, memAt 6 rfl, trivial⟩⟩ ⟨m218, _, le_m0, ok, ⟨memAt 3 rfl, memAt 4 rfl, memAt 5 rfl, memAt 6 rfl, trivial⟩⟩) fun hT => ?_
            refine k_done (by kernel_rfl) ?_
            exact ⟨rfl, ⟨m218, b226, c219, M220, c227, M228, le_m0, (ok.pk 7 [1, 0, 2, 3, 4, 5, 6] rfl (by decide)), E.keep [1, 2, 3, 5, 9], (show InR .i64 0 by decide), h221, h229⟩⟩
      · refine wpOp_of_list (o := _) rfl ?_
        refine l_make (R := pB) E ok sl_23 zero_4 rfl pB_mk rfl e213 rfl rfl fun c230 M231 a w E ok h232 => ?_
        refine wpList_nil ?_
        refine t_norm ?_
        refine k_next (cl1 ⟨m0, _, le_m0, ok, ⟨memAt 1 rfl, memAt 2 rfl, memAt 3 rfl, memAt 4 rfl, trivial⟩⟩ ⟨m0, _, le_m0, ok, ⟨memAt 1 rfl, memAt 2 rfl, memAt 3 rfl, memAt 4 rfl, trivial⟩⟩) fun hT => ?_
        refine k_all [2, 7] (by kernel_rfl) rfl (all_c ?_ (all_c ?_ (all_n)))
        · refine wpOp_of_list (o := _) rfl ?_
          refine l_call E go_50 rfl (automaton_grid_w N (o67.2.length : Int) (ORow.InR h195) e207 ok) rfl rfl ?_
          rintro _ w ⟨m233, c234, M235, rfl, hle, ok, h236⟩
          have le_m0 := le_m0.trans hle
          have h3 := (mL (mL (mI .i64))).up hle h3
          have h5 := (mL mB).up hle h5
          have h192 := ORow.up (mI .i64) hle h192
          have h195 := ORow.up (mI .i64) hle h195
          have h232 := ORow.up mB hle h232
          refine ⟨_, rfl, fun a E => ?_⟩
          refine wpList_nil ?_
          refine t_norm ?_
          refine k_next (cl1 ⟨m233, _, le_m0, ok, ⟨memAt 2 rfl, memAt 3 rfl, memAt 4 rfl, memAt 5 rfl, trivial⟩⟩ ⟨m233, _, le_m0, ok, ⟨memAt 2 rfl, memAt 3 rfl, memAt 4 rfl, memAt 5 rfl, trivial⟩⟩) fun hT => ?_
          refine k_take 6 E rfl (by kernel_rfl) nP hT (y_build (ps := [(1, .tmp 70), (2, .tmp 73)]) (qs := [(1, [c234]), (2, [c230])]) (cs := [(Value.int .i64 0), c234, c230]) zero_29 places_29 rfl ⟨rfl, (OGrid.cells h236), rfl, ⟨rfl, (ORow.cells h232), rfl, trivial⟩⟩ rfl) rfl rfl fun a E => ?_
          refine k_all [7] (by kernel_rfl) rfl (one_c ?_)
          · refine wpOp_of_list (o := _) rfl ?_
            refine l_alloc E ok zero_29 rfl rfl fun b237 a w E ok => ?_
            refine wpList_nil ?_
            refine t_norm ?_
            refine k_next (cl1 ⟨m233, _, le_m0, ok, ⟨memAt 3 rfl, memAt 4 rfl, memAt 5 rfl, memAt 6 rfl, trivial⟩⟩ ⟨m233, _, le_m0, ok, ⟨memAt 3 rfl, memAt 4 rfl, memAt 5 rfl, memAt 6 rfl, trivial⟩⟩) fun hT => ?_
            refine k_all [8] (by kernel_rfl) rfl (one_c ?_)
            · refine wpOp_of_list (o := _) rfl ?_
              refine l_storeB E ok 0 rfl rfl rfl inf_29 rfl rfl ⟨rfl, (OGrid.one h236), (ORow.one h232), trivial⟩ rfl rfl fun w ok => ?_
              refine wpList_nil ?_
              refine t_norm ?_
              refine k_next (cl1 ⟨m233, _, le_m0, ok, ⟨memAt 3 rfl, memAt 4 rfl, memAt 5 rfl, memAt 6 rfl, trivial⟩⟩ ⟨m233, _, le_m0, ok, ⟨memAt 3 rfl, memAt 4 rfl, memAt 5 rfl, memAt 6 rfl, trivial⟩⟩) fun hT => ?_
              refine k_done (by kernel_rfl) ?_
              exact ⟨rfl, ⟨m233, b237, c234, M235, c230, M231, le_m0, (ok.pk 7 [0, 2, 1, 3, 4, 5, 6] rfl (by decide)), E.keep [1, 2, 3, 5, 9], (show InR .i64 0 by decide), h236, h232⟩⟩
        refine wpOp_of_list (o := _) rfl ?_
        refine l_alloc E ok zero_29 rfl rfl fun b238 a w E ok => ?_
        refine wpList_nil ?_
        refine t_norm ?_
        refine k_next (cl1 ⟨m0, _, le_m0, ok, ⟨memAt 2 rfl, memAt 3 rfl, memAt 4 rfl, memAt 5 rfl, trivial⟩⟩ ⟨m0, _, le_m0, ok, ⟨memAt 2 rfl, memAt 3 rfl, memAt 4 rfl, memAt 5 rfl, trivial⟩⟩) fun hT => ?_
        refine k_all [2] (by kernel_rfl) rfl (one_c ?_)
        · refine wpOp_of_list (o := _) rfl ?_
          refine l_call E go_50 rfl (automaton_grid_w N (o67.2.length : Int) (ORow.InR h195) e207 ok) rfl rfl ?_
          rintro _ w ⟨m239, c240, M241, rfl, hle, ok, h242⟩
          have le_m0 := le_m0.trans hle
          have h3 := (mL (mL (mI .i64))).up hle h3
          have h5 := (mL mB).up hle h5
          have h192 := ORow.up (mI .i64) hle h192
          have h195 := ORow.up (mI .i64) hle h195
          have h232 := ORow.up mB hle h232
          refine ⟨_, rfl, fun a E => ?_⟩
          refine wpList_nil ?_
          refine t_norm ?_
          refine k_next (cl1 ⟨m239, _, le_m0, ok, ⟨memAt 3 rfl, memAt 4 rfl, memAt 5 rfl, memAt 6 rfl, trivial⟩⟩ ⟨m239, _, le_m0, ok, ⟨memAt 3 rfl, memAt 4 rfl, memAt 5 rfl, memAt 6 rfl, trivial⟩⟩) fun hT => ?_
          refine k_take 6 E rfl (by kernel_rfl) nP hT (y_build (ps := [(1, .tmp 70), (2, .tmp 73)]) (qs := [(1, [c240]), (2, [c230])]) (cs := [(Value.int .i64 0), c240, c230]) zero_29 places_29 rfl ⟨rfl, (OGrid.cells h242), rfl, ⟨rfl, (ORow.cells h232), rfl, trivial⟩⟩ rfl) rfl rfl fun a E => ?_
          refine k_all [8] (by kernel_rfl) rfl (one_c ?_)
          · refine wpOp_of_list (o := _) rfl ?_
            refine l_storeB E ok 1 rfl rfl rfl inf_29 rfl rfl ⟨rfl, (OGrid.one h242), (ORow.one h232), trivial⟩ rfl rfl fun w ok => ?_
            refine wpList_nil ?_
            refine t_norm ?_
            refine k_next (cl1 ⟨m239, _, le_m0, ok, ⟨memAt 3 rfl, memAt 4 rfl, memAt 5 rfl, memAt 6 rfl, trivial⟩⟩ ⟨m239, _, le_m0, ok, ⟨memAt 3 rfl, memAt 4 rfl, memAt 5 rfl, memAt 6 rfl, trivial⟩⟩) fun hT => ?_
            refine k_done (by kernel_rfl) ?_
            exact ⟨rfl, ⟨m239, b238, c240, M241, c230, M231, le_m0, (ok.pk 7 [1, 2, 0, 3, 4, 5, 6] rfl (by decide)), E.keep [1, 2, 3, 5, 9], (show InR .i64 0 by decide), h242, h232⟩⟩
      refine wpOp_of_list (o := _) rfl ?_
      refine l_alloc E ok zero_29 rfl rfl fun b243 a w E ok => ?_
      refine wpList_nil ?_
      refine t_norm ?_
      refine k_next (cl1 ⟨m0, _, le_m0, ok, ⟨memAt 1 rfl, memAt 2 rfl, memAt 3 rfl, memAt 4 rfl, trivial⟩⟩ ⟨m0, _, le_m0, ok, ⟨memAt 1 rfl, memAt 2 rfl, memAt 3 rfl, memAt 4 rfl, trivial⟩⟩) fun hT => ?_
      refine k_all [2, 5] (by kernel_rfl) rfl (all_c ?_ (all_c ?_ (all_n)))
      · refine wpOp_of_list (o := _) rfl ?_
        refine l_call E go_50 rfl (automaton_grid_w N (o67.2.length : Int) (ORow.InR h195) e207 ok) rfl rfl ?_
        rintro _ w ⟨m244, c245, M246, rfl, hle, ok, h247⟩
        have le_m0 := le_m0.trans hle
        have h3 := (mL (mL (mI .i64))).up hle h3
        have h5 := (mL mB).up hle h5
        have h192 := ORow.up (mI .i64) hle h192
        have h195 := ORow.up (mI .i64) hle h195
        refine ⟨_, rfl, fun a E => ?_⟩
        refine wpList_nil ?_
        refine t_norm ?_
        refine k_next (cl1 ⟨m244, _, le_m0, ok, ⟨memAt 2 rfl, memAt 3 rfl, memAt 4 rfl, memAt 5 rfl, trivial⟩⟩ ⟨m244, _, le_m0, ok, ⟨memAt 2 rfl, memAt 3 rfl, memAt 4 rfl, memAt 5 rfl, trivial⟩⟩) fun hT => ?_
        refine k_all [5] (by kernel_rfl) rfl (one_c ?_)
        · refine wpOp_of_list (o := _) rfl ?_
          refine l_make (R := pB) E ok sl_23 zero_4 rfl pB_mk rfl e213 rfl rfl fun c248 M249 a w E ok h250 => ?_
          refine wpList_nil ?_
          refine t_norm ?_
          refine k_next (cl1 ⟨m244, _, le_m0, ok, ⟨memAt 3 rfl, memAt 4 rfl, memAt 5 rfl, memAt 6 rfl, trivial⟩⟩ ⟨m244, _, le_m0, ok, ⟨memAt 3 rfl, memAt 4 rfl, memAt 5 rfl, memAt 6 rfl, trivial⟩⟩) fun hT => ?_
          refine k_take 6 E rfl (by kernel_rfl) nP hT (y_build (ps := [(1, .tmp 70), (2, .tmp 73)]) (qs := [(1, [c245]), (2, [c248])]) (cs := [(Value.int .i64 0), c245, c248]) zero_29 places_29 rfl ⟨rfl, (OGrid.cells h247), rfl, ⟨rfl, (ORow.cells h250), rfl, trivial⟩⟩ rfl) rfl rfl fun a E => ?_
          refine k_all [8] (by kernel_rfl) rfl (one_c ?_)
          · refine wpOp_of_list (o := _) rfl ?_
            refine l_storeB E ok 2 rfl rfl rfl inf_29 rfl rfl ⟨rfl, (OGrid.one h247), (ORow.one h250), trivial⟩ rfl rfl fun w ok => ?_
            refine wpList_nil ?_
            refine t_norm ?_
            refine k_next (cl1 ⟨m244, _, le_m0, ok, ⟨memAt 3 rfl, memAt 4 rfl, memAt 5 rfl, memAt 6 rfl, trivial⟩⟩ ⟨m244, _, le_m0, ok, ⟨memAt 3 rfl, memAt 4 rfl, memAt 5 rfl, memAt 6 rfl, trivial⟩⟩) fun hT => ?_
            refine k_done (by kernel_rfl) ?_
            exact ⟨rfl, ⟨m244, b243, c245, M246, c248, M249, le_m0, (ok.pk 7 [2, 0, 1, 3, 4, 5, 6] rfl (by decide)), E.keep [1, 2, 3, 5, 9], (show InR .i64 0 by decide), h247, h250⟩⟩
      refine wpOp_of_list (o := _) rfl ?_
      refine l_make (R := pB) E ok sl_23 zero_4 rfl pB_mk rfl e213 rfl rfl fun c251 M252 a w E ok h253 => ?_
      refine wpList_nil ?_
      refine t_norm ?_
      refine k_next (cl1 ⟨m0, _, le_m0, ok, ⟨memAt 2 rfl, memAt 3 rfl, memAt 4 rfl, memAt 5 rfl, trivial⟩⟩ ⟨m0, _, le_m0, ok, ⟨memAt 2 rfl, memAt 3 rfl, memAt 4 rfl, memAt 5 rfl, trivial⟩⟩) fun hT => ?_
      refine k_all [2] (by kernel_rfl) rfl (one_c ?_)
      · refine wpOp_of_list (o := _) rfl ?_
        refine l_call E go_50 rfl (automaton_grid_w N (o67.2.length : Int) (ORow.InR h195) e207 ok) rfl rfl ?_
        rintro _ w ⟨m254, c255, M256, rfl, hle, ok, h257⟩
        have le_m0 := le_m0.trans hle
        have h3 := (mL (mL (mI .i64))).up hle h3
        have h5 := (mL mB).up hle h5
        have h192 := ORow.up (mI .i64) hle h192
        have h195 := ORow.up (mI .i64) hle h195
        have h253 := ORow.up mB hle h253
        refine ⟨_, rfl, fun a E => ?_⟩
        refine wpList_nil ?_
        refine t_norm ?_
        refine k_next (cl1 ⟨m254, _, le_m0, ok, ⟨memAt 3 rfl, memAt 4 rfl, memAt 5 rfl, memAt 6 rfl, trivial⟩⟩ ⟨m254, _, le_m0, ok, ⟨memAt 3 rfl, memAt 4 rfl, memAt 5 rfl, memAt 6 rfl, trivial⟩⟩) fun hT => ?_
        refine k_take 6 E rfl (by kernel_rfl) nP hT (y_build (ps := [(1, .tmp 70), (2, .tmp 73)]) (qs := [(1, [c255]), (2, [c251])]) (cs := [(Value.int .i64 0), c255, c251]) zero_29 places_29 rfl ⟨rfl, (OGrid.cells h257), rfl, ⟨rfl, (ORow.cells h253), rfl, trivial⟩⟩ rfl) rfl rfl fun a E => ?_
        refine k_all [8] (by kernel_rfl) rfl (one_c ?_)
        · refine wpOp_of_list (o := _) rfl ?_
          refine l_storeB E ok 2 rfl rfl rfl inf_29 rfl rfl ⟨rfl, (OGrid.one h257), (ORow.one h253), trivial⟩ rfl rfl fun w ok => ?_
          refine wpList_nil ?_
          refine t_norm ?_
          refine k_next (cl1 ⟨m254, _, le_m0, ok, ⟨memAt 3 rfl, memAt 4 rfl, memAt 5 rfl, memAt 6 rfl, trivial⟩⟩ ⟨m254, _, le_m0, ok, ⟨memAt 3 rfl, memAt 4 rfl, memAt 5 rfl, memAt 6 rfl, trivial⟩⟩) fun hT => ?_
          refine k_done (by kernel_rfl) ?_
          exact ⟨rfl, ⟨m254, b243, c255, M256, c251, M252, le_m0, (ok.pk 7 [2, 1, 0, 3, 4, 5, 6] rfl (by decide)), E.keep [1, 2, 3, 5, 9], (show InR .i64 0 by decide), h257, h253⟩⟩
  clear hJ
  intro e a w hO
  obtain ⟨rfl, m258, b266, c260, M261, c263, M264, hle, ok, E, r259, h262, h265⟩ := hO
  have le_m0 := le_m0.trans hle
  have h3 := (mL (mL (mI .i64))).up hle h3
  have h5 := (mL mB).up hle h5
  have h192 := ORow.up (mI .i64) hle h192
  have h195 := ORow.up (mI .i64) hle h195
  refine t_norm ?_
  refine wp_seq ?_
  refine wp_seq ?_
  refine c_region ?_
  refine l_val E ok (y_move rfl) rfl rfl fun a E => ?_
  refine l_val E ok (y_lenR sl_56 h195 rfl) rfl rfl fun a E => ?_
  refine l_val E ok (y_move rfl) rfl rfl fun a E => ?_
  refine wpList_nil ?_
  refine t_norm ?_
  refine wp_block ?_
  obtain ⟨o276, hL, hF⟩ := bnd hF
  refine c_loop _ (fun (s : Int × DFA) a w => ∃ c279 M280 c282 M283, Ok u m258 ([(b266, Obj.cells [(Value.int .i64 s.2.Start), c279, c282].toArray 29 (0, 0))] :: M283 :: M280 :: M194 :: M191 :: [(b7, Obj.cells [(Value.int .i64 0), (Value.slice none 0 0), (Value.slice none 0 0)].toArray 29 (0, 0))] :: [(b6, Obj.cells [(Value.int .i64 d_0.Start), c2, c4].toArray 29 (0, 0))] :: S) w ∧ Env 116 a [(1, (Value.pointer (some ⟨b6, 0, none⟩))), (2, (Value.pointer (some ⟨b7, 0, none⟩))), (3, c190), (9, (Value.pointer (some ⟨b266, 0, none⟩))), (75, c193), (76, (Value.int .i64 (o67.2.length : Int))), (77, (Value.int .i64 s.1))] ∧ InR .i64 s.1 ∧ InR .i64 s.2.Start ∧ OGrid m258 c279 s.2.Next M280 ∧ ORow 4 1 pB m258 c282 s.2.Accept M283) (fun (b : DFA) e a w => e = (.exit 6) ∧ ∃ c499 M500 c502 M503, Ok u m258 ([(b266, Obj.cells [(Value.int .i64 b.Start), c499, c502].toArray 29 (0, 0))] :: M503 :: M500 :: M194 :: M191 :: [(b7, Obj.cells [(Value.int .i64 0), (Value.slice none 0 0), (Value.slice none 0 0)].toArray 29 (0, 0))] :: [(b6, Obj.cells [(Value.int .i64 d_0.Start), c2, c4].toArray 29 (0, 0))] :: S) w ∧ Env 116 a [(2, (Value.pointer (some ⟨b7, 0, none⟩))), (9, (Value.pointer (some ⟨b266, 0, none⟩)))] ∧ InR .i64 b.Start ∧ OGrid m258 c499 b.Next M500 ∧ ORow 4 1 pB m258 c502 b.Accept M503) ?_ ?_ N _ a w hL ⟨c260, M261, c263, M264, ok, E.keep [1, 2, 3, 9, 75, 76, 77], (show InR .i64 (0) by decide), r259, h262, h265⟩
  rotate_left
  · intro e a w _ hO
    obtain ⟨rfl, c488, M489, c491, M492, ok, E, r487, h490, h493⟩ := hO
    refine b_hit ?_
    refine t_norm ?_
    refine wp_seq ?_
    refine c_region ?_
    refine l_val E ok (y_loadAgg (cs := [(Value.int .i64 o276.Start), c488, c491]) agg_29 rfl rfl (Holds.own 0 rfl rfl)) rfl rfl fun a E => ?_
    refine l_storeB E ok 5 rfl rfl rfl inf_29 rfl rfl ⟨rfl, (OGrid.one h490), (ORow.one h493), trivial⟩ rfl rfl fun w ok => ?_
    refine wpList_nil ?_
    refine t_norm ?_
    refine wp_ret ?_
    obtain ⟨m494, hle, ok, hfz⟩ := (ok.frs 2 rfl).freeze
    have h495 := OGrid.froz h490 hle hfz
    have le_m0 := le_m0.trans hle
    have h3 := (mL (mL (mI .i64))).up hle h3
    have h5 := (mL mB).up hle h5
    have h493 := ORow.up mB hle h493
    obtain ⟨m496, hle, ok, hfz⟩ := (ok.frs 1 rfl).freeze
    have h497 := ORow.froz mB h493 hle hfz (by decide)
    have le_m0 := le_m0.trans hle
    have h3 := (mL (mL (mI .i64))).up hle h3
    have h5 := (mL mB).up hle h5
    have h495 := (mL (mL (mI .i64))).up hle h495
    have hret : automaton_reachable_R u m0 S o276 a w := ⟨m496, [(Value.int .i64 o276.Start), c488, c491], le_m0, ok.drop.drop.drop.drop.drop, E.d, ⟨rv_c (cs := [(Value.int .i64 o276.Start), c488, c491]) E ok rfl agg_29 rfl (Holds.own 3 rfl rfl), trivial⟩, ⟨_, _, rfl, r487, h495, h497⟩⟩
    obtain rfl := Option.some.inj hF
    exact fin _ _ hret
  rintro ⟨x_285, x_286⟩ a w r ⟨c289, M290, c292, M293, ok, E, r287, r288, h291, h294⟩ hF
  replace hF : automaton_reachable_b4 N d_0 o67 x_285 x_286 = some r := hF
  unfold automaton_reachable_b4 at hF
  refine wp_seq ?_
  refine c_region ?_
  refine l_val E ok (y_lss rfl rfl) rfl rfl fun a E => ?_
  refine wpList_nil ?_
  refine t_norm ?_
  refine wp_seq ?_
  refine c_if E rfl (fun hc295 => ?_) (fun hc295 => ?_)
  rotate_left
  · replace hF := cond_f hc295 hF
    refine wp_exit ?_
    refine t_exit ?_
    obtain rfl := Option.some.inj hF
    exact step_o (by nofun) (⟨rfl, ⟨c289, M290, c292, M293, ok, E.keep [2, 9], r288, h291, h294⟩⟩)
  replace hF := cond_t hc295 hF
  refine wp_skip ?_
  refine t_norm ?_
  refine wp_seq ?_
  refine wp_block ?_
  refine wp_seq ?_
  refine c_region ?_
  refine l_val E ok (y_move rfl) rfl rfl fun a E => ?_
  obtain ⟨x296, e297, hF⟩ := bnd hF
  obtain ⟨b298, o299, hp300, yy301⟩ := orowAt sl_56 h195 e297 (P := Try.prog) (X := .tmp 75) (I := .tmp 77) (kd := .i64) (ev_of E rfl) (ev_of E rfl)
  refine l_val E ok (yy301 _ _) rfl rfl fun a E => ?_
  obtain ⟨es302, hl303, rr304, hh305⟩ := orowGet h195 e297 hp300 (by decide)
  obtain ⟨rfl, r306⟩ := rr304
  refine l_val E ok (y_load one_3 rfl (hh305 _ _ _ 3 rfl)) rfl rfl fun a E => ?_
  refine l_val E ok (y_assign rfl) rfl rfl fun a E => ?_
  refine l_val E ok (y_assign rfl) rfl rfl fun a E => ?_
  refine wpList_nil ?_
  refine t_norm ?_
  refine wp_seq ?_
  obtain ⟨o307, hJ, hF⟩ := bnd hF
  refine c_mono (Q' := fun e a w => e = .normal ∧ ∃ c309 M310 c312 M313, Ok u m258 ([(b266, Obj.cells [(Value.int .i64 o307.Start), c309, c312].toArray 29 (0, 0))] :: M313 :: M310 :: M194 :: M191 :: [(b7, Obj.cells [(Value.int .i64 0), (Value.slice none 0 0), (Value.slice none 0 0)].toArray 29 (0, 0))] :: [(b6, Obj.cells [(Value.int .i64 d_0.Start), c2, c4].toArray 29 (0, 0))] :: S) w ∧ Env 116 a [(1, (Value.pointer (some ⟨b6, 0, none⟩))), (2, (Value.pointer (some ⟨b7, 0, none⟩))), (3, c190), (9, (Value.pointer (some ⟨b266, 0, none⟩))), (10, (Value.int .i64 x_285)), (11, (Value.int .i64 x296)), (75, c193), (76, (Value.int .i64 (o67.2.length : Int))), (77, (Value.int .i64 x_285))] ∧ InR .i64 o307.Start ∧ OGrid m258 c309 o307.Next M310 ∧ ORow 4 1 pB m258 c312 o307.Accept M313) ?_ ?_
  · replace hF := hJ
    clear hJ
    obtain ⟨x315, e316, hF⟩ := bnd hF
    obtain ⟨x324, e325, hF⟩ := bnd hF
    obtain ⟨l330, e331, hF⟩ := bnd hF
    obtain rfl := Option.some.inj hF
    refine k_begin [1, 4, 7] (Cls u m258 ([(b266, Obj.cells [(Value.int .i64 x_286.Start), c289, c292].toArray 29 (0, 0))] :: M290 :: M194 :: M191 :: [(b7, Obj.cells [(Value.int .i64 0), (Value.slice none 0 0), (Value.slice none 0 0)].toArray 29 (0, 0))] :: [(b6, Obj.cells [(Value.int .i64 d_0.Start), c2, c4].toArray 29 (0, 0))] :: [])) (Cls u m258 (M290 :: M194 :: M191 :: [(b7, Obj.cells [(Value.int .i64 0), (Value.slice none 0 0), (Value.slice none 0 0)].toArray 29 (0, 0))] :: [(b6, Obj.cells [(Value.int .i64 d_0.Start), c2, c4].toArray 29 (0, 0))] :: [])) (by kernel_rfl) ?_
    intro w hw
    replace ok := okdrew ok hw
    clear hw
    have le_m258 := Mem.le.refl m258
    refine k_next (cl1 ⟨m258, _, le_m258, ok, ⟨memAt 0 rfl, memAt 2 rfl, memAt 3 rfl, memAt 4 rfl, memAt 5 rfl, memAt 6 rfl, trivial⟩⟩ ⟨m258, _, le_m258, ok, ⟨memAt 2 rfl, memAt 3 rfl, memAt 4 rfl, memAt 5 rfl, memAt 6 rfl, trivial⟩⟩) fun hT => ?_
    refine k_take 0 E rfl (by kernel_rfl) nP hT (y_fieldAddr fo_29_2 rfl) rfl rfl fun a E => ?_
    refine k_takeN 1 E rfl (by kernel_rfl) nP hT (y_load one_23 rfl (Holds.cown 0 rfl rfl)) rfl rfl fun a E => ?_
    refine k_take 2 E rfl (by kernel_rfl) nP hT (y_move rfl) rfl rfl fun a E => ?_
    refine k_take 3 E rfl (by kernel_rfl) nP hT (y_fieldAddr fo_29_2 rfl) rfl rfl fun a E => ?_
    refine k_takeN 4 E rfl (by kernel_rfl) nP hT (y_load one_23 rfl (Holds.cown 5 rfl rfl)) rfl rfl fun a E => ?_
    refine k_take 5 E rfl (by kernel_rfl) nP hT (y_move rfl) rfl rfl fun a E => ?_
    obtain ⟨b334, o335, es336, hl337, rr338, at339, yy340⟩ := idxAt sl_23 h5 e316 (P := Try.prog) (X := .tmp 86) (I := .tmp 87) (kd := .i64) (ev_of E rfl) (ev_of E rfl)
    obtain rfl := rr338
    refine k_take 6 E rfl (by kernel_rfl) nP hT (yy340 _ _) rfl rfl fun a E => ?_
    refine k_takeN 7 E rfl (by kernel_rfl) nP hT (y_load one_4 rfl (Holds.cro at339)) rfl rfl fun a E => ?_
    obtain ⟨b341, o342, hp343, yy344⟩ := orowAt sl_23 h294 e325 (P := Try.prog) (X := .tmp 83) (I := .tmp 84) (kd := .i64) (ev_of E rfl) (ev_of E rfl)
    refine k_take 8 E rfl (by kernel_rfl) nP hT (yy344 _ _) rfl rfl fun a E => ?_
    refine k_all [9] (by kernel_rfl) rfl (one_c ?_)
    · refine wpOp_of_list (o := _) rfl ?_
      refine l_storeRow (R := pB) E ok 1 rfl h294 e325 hp343 rfl rfl inf_4 rfl rfl rfl ⟨rfl, trivial⟩ pB_mk e331 rfl fun M345 w ok h346 => ?_
      refine wpList_nil ?_
      refine t_norm ?_
      refine k_next (cl2 (by kernel_rfl) ⟨m258, _, le_m258, ok, ⟨memAt 2 rfl, memAt 3 rfl, memAt 4 rfl, memAt 5 rfl, memAt 6 rfl, trivial⟩⟩) fun hT => ?_
      refine k_done (by kernel_rfl) ?_
      exact ⟨rfl, ⟨c289, M290, c292, M345, ok, E.keep [1, 2, 3, 9, 10, 11, 75, 76, 77], r288, h291, h346⟩⟩
  clear hJ
  intro e a w hO
  obtain ⟨rfl, c348, M349, c351, M352, ok, E, r347, h350, h353⟩ := hO
  refine t_norm ?_
  refine wp_seq ?_
  refine c_region ?_
  refine l_val E ok (y_fieldAddr fo_29_1 rfl) rfl rfl fun a E => ?_
  refine l_val E ok (y_load one_22 rfl (Holds.own 6 rfl rfl)) rfl rfl fun a E => ?_
  refine l_val E ok (y_move rfl) rfl rfl fun a E => ?_
  obtain ⟨x354, e355, hF⟩ := bnd hF
  obtain ⟨b356, o357, es358, hl359, rr360, at361, yy362⟩ := idxAt sl_22 h3 e355 (P := Try.prog) (X := .tmp 92) (I := .tmp 93) (kd := .i64) (ev_of E rfl) (ev_of E rfl)
  obtain ⟨c363, rfl, h364⟩ := pL_cell rr360
  refine l_val E ok (yy362 _ _) rfl rfl fun a E => ?_
  refine l_val E ok (y_load one_56 rfl (Holds.ro at361)) rfl rfl fun a E => ?_
  refine l_val E ok (y_lenL sl_56 h364 rfl) rfl rfl fun a E => ?_
  refine l_val E ok (y_move rfl) rfl rfl fun a E => ?_
  refine wpList_nil ?_
  refine t_norm ?_
  refine wp_block ?_
  obtain ⟨o374, hL, hF⟩ := bnd hF
  refine c_loop _ (fun (s : Int × DFA) a w => ∃ c377 M378 c380 M381, Ok u m258 ([(b266, Obj.cells [(Value.int .i64 s.2.Start), c377, c380].toArray 29 (0, 0))] :: M381 :: M378 :: M194 :: M191 :: [(b7, Obj.cells [(Value.int .i64 0), (Value.slice none 0 0), (Value.slice none 0 0)].toArray 29 (0, 0))] :: [(b6, Obj.cells [(Value.int .i64 d_0.Start), c2, c4].toArray 29 (0, 0))] :: S) w ∧ Env 116 a [(1, (Value.pointer (some ⟨b6, 0, none⟩))), (2, (Value.pointer (some ⟨b7, 0, none⟩))), (3, c190), (9, (Value.pointer (some ⟨b266, 0, none⟩))), (10, (Value.int .i64 x_285)), (75, c193), (76, (Value.int .i64 (o67.2.length : Int))), (77, (Value.int .i64 x_285)), (95, c363), (96, (Value.int .i64 (x354.length : Int))), (97, (Value.int .i64 s.1))] ∧ InR .i64 s.1 ∧ InR .i64 s.2.Start ∧ OGrid m258 c377 s.2.Next M378 ∧ ORow 4 1 pB m258 c380 s.2.Accept M381) (fun (b : DFA) e a w => e = (.exit 8) ∧ ∃ c481 M482 c484 M485, Ok u m258 ([(b266, Obj.cells [(Value.int .i64 b.Start), c481, c484].toArray 29 (0, 0))] :: M485 :: M482 :: M194 :: M191 :: [(b7, Obj.cells [(Value.int .i64 0), (Value.slice none 0 0), (Value.slice none 0 0)].toArray 29 (0, 0))] :: [(b6, Obj.cells [(Value.int .i64 d_0.Start), c2, c4].toArray 29 (0, 0))] :: S) w ∧ Env 116 a [(1, (Value.pointer (some ⟨b6, 0, none⟩))), (2, (Value.pointer (some ⟨b7, 0, none⟩))), (3, c190), (9, (Value.pointer (some ⟨b266, 0, none⟩))), (75, c193), (76, (Value.int .i64 (o67.2.length : Int))), (77, (Value.int .i64 x_285))] ∧ InR .i64 b.Start ∧ OGrid m258 c481 b.Next M482 ∧ ORow 4 1 pB m258 c484 b.Accept M485) ?_ ?_ N _ a w hL ⟨c348, M349, c351, M352, ok, E.keep [1, 2, 3, 9, 10, 75, 76, 77, 95, 96, 97], (show InR .i64 (0) by decide), r347, h350, h353⟩
  rotate_left
  · intro e a w _ hO
    obtain ⟨rfl, c474, M475, c477, M478, ok, E, r473, h476, h479⟩ := hO
    refine b_hit ?_
    refine b_norm ?_
    refine t_norm ?_
    refine c_region ?_
    refine l_val E ok (y_add rfl rfl (InR.inc r287 (ORow.InR h195) hc295)) rfl rfl fun a E => ?_
    refine l_val E ok (y_move rfl) rfl rfl fun a E => ?_
    refine wpList_nil ?_
    obtain rfl := Option.some.inj hF
    exact step_n ⟨c474, M475, c477, M478, ok, E.keep [1, 2, 3, 9, 75, 76, 77], (InR.inc r287 (ORow.InR h195) hc295), r473, h476, h479⟩
  rintro ⟨x_383, x_384⟩ a w r ⟨c387, M388, c390, M391, ok, E, r385, r386, h389, h392⟩ hF
  replace hF : automaton_reachable_b5 N o67 x_285 x354 x_383 x_384 = some r := hF
  unfold automaton_reachable_b5 at hF
  refine wp_seq ?_
  refine c_region ?_
  refine l_val E ok (y_lss rfl rfl) rfl rfl fun a E => ?_
  refine wpList_nil ?_
  refine t_norm ?_
  refine wp_seq ?_
  refine c_if E rfl (fun hc393 => ?_) (fun hc393 => ?_)
  rotate_left
  · replace hF := cond_f hc393 hF
    refine wp_exit ?_
    refine t_exit ?_
    obtain rfl := Option.some.inj hF
    exact step_o (by nofun) (⟨rfl, ⟨c387, M388, c390, M391, ok, E.keep [1, 2, 3, 9, 75, 76, 77], r386, h389, h392⟩⟩)
  replace hF := cond_t hc393 hF
  refine wp_skip ?_
  refine t_norm ?_
  refine wp_seq ?_
  refine wp_block ?_
  refine wp_seq ?_
  refine c_region ?_
  refine l_val E ok (y_move rfl) rfl rfl fun a E => ?_
  obtain ⟨x394, e395, hF⟩ := bnd hF
  obtain ⟨b396, o397, es398, hl399, rr400, at401, yy402⟩ := idxAt sl_56 h364 e395 (P := Try.prog) (X := .tmp 95) (I := .tmp 97) (kd := .i64) (ev_of E rfl) (ev_of E rfl)
  obtain ⟨rfl, r403⟩ := rr400
  refine l_val E ok (yy402 _ _) rfl rfl fun a E => ?_
  refine l_val E ok (y_load one_3 rfl (Holds.ro at401)) rfl rfl fun a E => ?_
  refine l_val E ok (y_assign rfl) rfl rfl fun a E => ?_
  refine l_val E ok (y_assign rfl) rfl rfl fun a E => ?_
  refine wpList_nil ?_
  refine t_norm ?_
  obtain ⟨o404, hJ, hF⟩ := bnd hF
  refine c_mono (Q' := fun e a w => e = .normal ∧ ∃ c406 M407 c409 M410, Ok u m258 ([(b266, Obj.cells [(Value.int .i64 o404.Start), c406, c409].toArray 29 (0, 0))] :: M410 :: M407 :: M194 :: M191 :: [(b7, Obj.cells [(Value.int .i64 0), (Value.slice none 0 0), (Value.slice none 0 0)].toArray 29 (0, 0))] :: [(b6, Obj.cells [(Value.int .i64 d_0.Start), c2, c4].toArray 29 (0, 0))] :: S) w ∧ Env 116 a [(1, (Value.pointer (some ⟨b6, 0, none⟩))), (2, (Value.pointer (some ⟨b7, 0, none⟩))), (3, c190), (9, (Value.pointer (some ⟨b266, 0, none⟩))), (10, (Value.int .i64 x_285)), (75, c193), (76, (Value.int .i64 (o67.2.length : Int))), (77, (Value.int .i64 x_285)), (95, c363), (96, (Value.int .i64 (x354.length : Int))), (97, (Value.int .i64 x_383))] ∧ InR .i64 o404.Start ∧ OGrid m258 c406 o404.Next M407 ∧ ORow 4 1 pB m258 c409 o404.Accept M410) ?_ ?_
  rotate_left
  · clear hJ
    intro e a w hO
    obtain ⟨rfl, c467, M468, c470, M471, ok, E, r466, h469, h472⟩ := hO
    refine b_norm ?_
    refine t_norm ?_
    refine c_region ?_
    refine l_val E ok (y_add rfl rfl (InR.inc r385 (pL_InR h364) hc393)) rfl rfl fun a E => ?_
    refine l_val E ok (y_move rfl) rfl rfl fun a E => ?_
    refine wpList_nil ?_
    obtain rfl := Option.some.inj hF
    exact step_n ⟨c467, M468, c470, M471, ok, E.keep [1, 2, 3, 9, 10, 75, 76, 77, 95, 96, 97], (InR.inc r385 (pL_InR h364) hc393), r466, h469, h472⟩
  replace hF := hJ
  clear hJ
  obtain ⟨x412, e413, hF⟩ := bnd hF
  obtain ⟨x421, e422, hF⟩ := bnd hF
  obtain ⟨x432, e433, hF⟩ := bnd hF
  obtain ⟨l438, e439, hF⟩ := bnd hF
  obtain ⟨g440, e441, hF⟩ := bnd hF
  obtain rfl := Option.some.inj hF
  refine k_begin [1, 4, 9] (Cls u m258 ([(b266, Obj.cells [(Value.int .i64 x_384.Start), c387, c390].toArray 29 (0, 0))] :: M391 :: M194 :: M191 :: [(b7, Obj.cells [(Value.int .i64 0), (Value.slice none 0 0), (Value.slice none 0 0)].toArray 29 (0, 0))] :: [(b6, Obj.cells [(Value.int .i64 d_0.Start), c2, c4].toArray 29 (0, 0))] :: [])) (Cls u m258 (M391 :: M194 :: M191 :: [(b7, Obj.cells [(Value.int .i64 0), (Value.slice none 0 0), (Value.slice none 0 0)].toArray 29 (0, 0))] :: [(b6, Obj.cells [(Value.int .i64 d_0.Start), c2, c4].toArray 29 (0, 0))] :: [])) (by kernel_rfl) ?_
  intro w hw
  replace ok := okdrew ok hw
  clear hw
  have le_m258 := Mem.le.refl m258
  refine k_next (cl1 ⟨m258, _, le_m258, ok, ⟨memAt 0 rfl, memAt 1 rfl, memAt 3 rfl, memAt 4 rfl, memAt 5 rfl, memAt 6 rfl, trivial⟩⟩ ⟨m258, _, le_m258, ok, ⟨memAt 1 rfl, memAt 3 rfl, memAt 4 rfl, memAt 5 rfl, memAt 6 rfl, trivial⟩⟩) fun hT => ?_
  refine k_take 0 E rfl (by kernel_rfl) nP hT (y_fieldAddr fo_29_1 rfl) rfl rfl fun a E => ?_
  refine k_takeN 1 E rfl (by kernel_rfl) nP hT (y_load one_22 rfl (Holds.cown 0 rfl rfl)) rfl rfl fun a E => ?_
  refine k_take 2 E rfl (by kernel_rfl) nP hT (y_move rfl) rfl rfl fun a E => ?_
  obtain ⟨b444, o445, rv446, hr447, hl448, at449, yy450⟩ := gridAt sl_22 h389 e413 (P := Try.prog) (X := .tmp 103) (I := .tmp 104) (kd := .i64) (ev_of E rfl) (ev_of E rfl)
  refine k_take 3 E rfl (by kernel_rfl) nP hT (yy450 _ _) rfl rfl fun a E => ?_
  refine k_takeN 4 E rfl (by kernel_rfl) nP hT (y_load one_56 rfl (Holds.cro at449)) rfl rfl fun a E => ?_
  refine k_take 5 E rfl (by kernel_rfl) nP hT (y_move rfl) rfl rfl fun a E => ?_
  refine k_take 6 E rfl (by kernel_rfl) nP hT (y_move rfl) rfl rfl fun a E => ?_
  refine k_take 7 E rfl (by kernel_rfl) nP hT (y_move rfl) rfl rfl fun a E => ?_
  obtain ⟨b451, o452, hp453, yy454⟩ := orowAt sl_56 h192 e422 (P := Try.prog) (X := .tmp 108) (I := .tmp 109) (kd := .i64) (ev_of E rfl) (ev_of E rfl)
  refine k_take 8 E rfl (by kernel_rfl) nP hT (yy454 _ _) rfl rfl fun a E => ?_
  obtain ⟨es455, hl456, rr457, hh458⟩ := orowGet h192 e422 hp453 (by decide)
  obtain ⟨rfl, r459⟩ := rr457
  refine k_takeN 9 E rfl (by kernel_rfl) nP hT (y_load one_3 rfl (Holds.crow hh458 3 rfl)) rfl rfl fun a E => ?_
  obtain ⟨b460, o461, hp462, yy463⟩ := growAt sl_56 hr447 hl448 e433 (P := Try.prog) (X := .tmp 106) (I := .tmp 107) (kd := .i64) (ev_of E rfl) (ev_of E rfl)
  refine k_take 10 E rfl (by kernel_rfl) nP hT (yy463 _ _) rfl rfl fun a E => ?_
  refine k_all [11] (by kernel_rfl) rfl (one_c ?_)
  · refine wpOp_of_list (o := _) rfl ?_
    refine l_storeG E ok 2 rfl h389 e413 e433 hp462 rfl rfl r459 inf_3 e439 e441 rfl fun M464 w ok h465 => ?_
    refine wpList_nil ?_
    refine t_norm ?_
    refine k_next (cl2 (by kernel_rfl) ⟨m258, _, le_m258, ok, ⟨memAt 1 rfl, memAt 3 rfl, memAt 4 rfl, memAt 5 rfl, memAt 6 rfl, trivial⟩⟩) fun hT => ?_
    refine k_done (by kernel_rfl) ?_
    exact ⟨rfl, ⟨c387, M464, c390, M391, ok, E.keep [1, 2, 3, 9, 10, 75, 76, 77, 95, 96, 97], r386, h465, h392⟩⟩

def automaton_classes_R (u : World) (m0 : Mem) (S : Segs) (r : (List (Int)) × Int) (a : Act) (w : World) : Prop :=
  ∃ m1 v0, m0.le m1 ∧ Ok u m1 S w ∧ a.defers = [] ∧ RVs Try.prog a w [.t 2 v0, .t 3 (.int .i64 r.2)] ∧ (pL 1 (pI .i64)) m1 [v0] r.1 ∧ InR .i64 r.2
set_option maxHeartbeats 4000000 in
set_option maxRecDepth 100000 in
theorem automaton_classes_w {u : World} {m0 : Mem} {S : Segs} {w : World} (N : Nat) (vd_0 : List Value) (d_0 : DFA) (hd_0 : pDFA m0 vd_0 d_0) {r : (List (Int)) × Int} (hF : automaton_classes N d_0 = some r) (ok : Ok u m0 S w) :
    Calls Try.prog 49 [.agg vd_0.toArray].toArray w fun e w' => ∃ m1 v0, e = .returned (.tuple [v0, (.int .i64 r.2)].toArray) ∧ m0.le m1 ∧ Ok u m1 S w' ∧ (pL 1 (pI .i64)) m1 [v0] r.1 ∧ InR .i64 r.2 := by
  obtain ⟨c2, c4, rfl, r1, h3, h5⟩ := hd_0
  have le_m0 := Mem.le.refl m0
  unfold automaton_classes at hF
  have fin : ∀ a w, automaton_classes_R u m0 S r a w → bodyPost Try.prog Try.f49 (fun e w' => ∃ m1 v0, e = .returned (.tuple [v0, (.int .i64 r.2)].toArray) ∧ m0.le m1 ∧ Ok u m1 S w' ∧ (pL 1 (pI .i64)) m1 [v0] r.1 ∧ InR .i64 r.2) .ret a w := by
    intro a w h
    obtain ⟨m1, v0, hle, ok, hd, hrv, h0, h1⟩ := h
    exact c_ret2 [.t 2 v0, .t 3 (.int .i64 r.2)] hd rfl hrv ⟨m1, v0, rfl, hle, ok, h0, h1⟩
  refine enter Try.func49 rfl rfl rfl fun a E => ?_
  refine wp_seq ?_
  refine c_region ?_
  refine l_box E ok rfl rfl rfl fun b6 a w E ok => ?_
  refine l_val E ok (y_assign rfl) rfl rfl fun a E => ?_
  refine l_val E ok (y_assign rfl) rfl rfl fun a E => ?_
  refine wpList_nil ?_
  refine t_norm ?_
  refine wp_scope_straight ?_
  refine wp_seq ?_
  refine c_region ?_
  refine l_val E ok (y_fieldAddr fo_29_1 rfl) rfl rfl fun a E => ?_
  refine l_val E ok (y_load one_22 rfl (Holds.own 0 rfl rfl)) rfl rfl fun a E => ?_
  refine l_val E ok (y_lenL sl_22 h3 rfl) rfl rfl fun a E => ?_
  obtain ⟨l7, e8, hF⟩ := bnd hF
  refine l_make (R := (pI .i64)) E ok sl_56 zero_3 rfl (pI_mk (show InR .i64 0 by decide)) rfl e8 rfl rfl fun c9 M10 a w E ok h11 => ?_
  refine l_val E ok (y_assign rfl) rfl rfl fun a E => ?_
  refine wpList_nil ?_
  refine t_norm ?_
  refine wp_seq ?_
  refine c_region ?_
  refine l_val E ok (y_assign rfl) rfl rfl fun a E => ?_
  refine wpList_nil ?_
  refine t_norm ?_
  refine wp_seq ?_
  refine wp_seq ?_
  refine c_region ?_
  refine l_val E ok (y_fieldAddr fo_29_2 rfl) rfl rfl fun a E => ?_
  refine l_val E ok (y_load one_23 rfl (Holds.own 1 rfl rfl)) rfl rfl fun a E => ?_
  refine l_val E ok (y_lenL sl_23 h5 rfl) rfl rfl fun a E => ?_
  refine l_val E ok (y_move rfl) rfl rfl fun a E => ?_
  refine wpList_nil ?_
  refine t_norm ?_
  refine wp_block ?_
  obtain ⟨o19, hL, hF⟩ := bnd hF
  refine c_loop _ (fun (s : Int × Int × (List (Int))) a w => ∃ c22 M23, Ok u m0 (M23 :: [(b6, Obj.cells [(Value.int .i64 d_0.Start), c2, c4].toArray 29 (0, 0))] :: S) w ∧ Env 99 a [(1, (Value.pointer (some ⟨b6, 0, none⟩))), (4, c22), (5, (Value.int .i64 s.1)), (22, c4), (23, (Value.int .i64 (d_0.Accept.length : Int))), (24, (Value.int .i64 s.2.1))] ∧ InR .i64 s.1 ∧ InR .i64 s.2.1 ∧ ORow 3 1 (pI .i64) m0 c22 s.2.2 M23) (fun (b : ((List (Int)) × Int)) e a w => e = (.exit 0) ∧ ∃ c295 M296, Ok u m0 (M296 :: [(b6, Obj.cells [(Value.int .i64 d_0.Start), c2, c4].toArray 29 (0, 0))] :: S) w ∧ Env 99 a [(1, (Value.pointer (some ⟨b6, 0, none⟩))), (4, c295), (5, (Value.int .i64 b.2))] ∧ ORow 3 1 (pI .i64) m0 c295 b.1 M296 ∧ InR .i64 b.2) ?_ ?_ N _ a w hL ⟨c9, M10, ok, E.keep [1, 4, 5, 22, 23, 24], (show InR .i64 (1) by decide), (show InR .i64 (0) by decide), h11⟩
  · as_aux_lemma =>
      rintro ⟨count_25, x_26, class_27⟩ a w r ⟨c30, M31, ok, E, r28, r29, h32⟩ hF
      replace hF : automaton_classes_b1 N d_0 count_25 x_26 class_27 = some r := hF
      unfold automaton_classes_b1 at hF
      refine wp_seq ?_
      refine c_region ?_
      refine l_val E ok (y_lss rfl rfl) rfl rfl fun a E => ?_
      refine wpList_nil ?_
      refine t_norm ?_
      refine wp_seq ?_
      refine c_if E rfl (fun hc33 => ?_) (fun hc33 => ?_)
      rotate_left
      · replace hF := cond_f hc33 hF
        refine wp_exit ?_
        refine t_exit ?_
        obtain rfl := Option.some.inj hF
        exact step_o (by nofun) (⟨rfl, ⟨c30, M31, ok, E.keep [1, 4, 5], h32, r28⟩⟩)
      replace hF := cond_t hc33 hF
      refine wp_skip ?_
      refine t_norm ?_
      refine wp_seq ?_
      refine wp_block ?_
      refine wp_seq ?_
      refine c_region ?_
      refine l_val E ok (y_move rfl) rfl rfl fun a E => ?_
      obtain ⟨x34, e35, hF⟩ := bnd hF
      obtain ⟨b36, o37, es38, hl39, rr40, at41, yy42⟩ := idxAt sl_23 h5 e35 (P := Try.prog) (X := .tmp 22) (I := .tmp 24) (kd := .i64) (ev_of E rfl) (ev_of E rfl)
      obtain rfl := rr40
      refine l_val E ok (yy42 _ _) rfl rfl fun a E => ?_
      refine l_val E ok (y_load one_4 rfl (Holds.ro at41)) rfl rfl fun a E => ?_
      refine l_val E ok (y_assign rfl) rfl rfl fun a E => ?_
      refine l_val E ok (y_assign rfl) rfl rfl fun a E => ?_
      refine wpList_nil ?_
      refine t_norm ?_
      refine wp_seq ?_
      refine wp_seq ?_
      refine c_region ?_
      refine l_val E ok (y_move rfl) rfl rfl fun a E => ?_
      refine wpList_nil ?_
      refine t_norm ?_
      obtain ⟨o43, hJ, hF⟩ := bnd hF
      refine c_mono (Q' := fun e a w => e = .normal ∧ ∃ c44 M45, Ok u m0 (M45 :: [(b6, Obj.cells [(Value.int .i64 d_0.Start), c2, c4].toArray 29 (0, 0))] :: S) w ∧ Env 99 a [(1, (Value.pointer (some ⟨b6, 0, none⟩))), (4, c44), (5, (Value.int .i64 count_25)), (7, (Value.bool x34)), (22, c4), (23, (Value.int .i64 (d_0.Accept.length : Int))), (24, (Value.int .i64 x_26))] ∧ ORow 3 1 (pI .i64) m0 c44 o43 M45) ?_ ?_
      · replace hF := hJ
        clear hJ
        refine c_if E rfl (fun hc47 => ?_) (fun hc47 => ?_)
        rotate_left
        · replace hF := cond_f hc47 hF
          refine wp_skip ?_
          obtain rfl := Option.some.inj hF
          exact ⟨rfl, ⟨c30, M31, ok, E.keep [1, 4, 5, 7, 22, 23, 24], h32⟩⟩
        replace hF := cond_t hc47 hF
        refine c_region ?_
        refine l_val E ok (y_move rfl) rfl rfl fun a E => ?_
        refine l_val E ok (y_move rfl) rfl rfl fun a E => ?_
        obtain ⟨x48, e49, hF⟩ := bnd hF
        obtain ⟨b50, o51, hp52, yy53⟩ := orowAt sl_56 h32 e49 (P := Try.prog) (X := .tmp 30) (I := .tmp 31) (kd := .i64) (ev_of E rfl) (ev_of E rfl)
        refine l_val E ok (yy53 _ _) rfl rfl fun a E => ?_
        obtain ⟨l54, e55, hF⟩ := bnd hF
        refine l_storeRow (R := (pI .i64)) E ok 0 rfl h32 e49 hp52 rfl rfl inf_3 rfl rfl rfl ⟨rfl, trivial⟩ (pI_mk (show InR .i64 (1) by decide)) e55 rfl fun M56 w ok h57 => ?_
        refine wpList_nil ?_
        obtain rfl := Option.some.inj hF
        exact ⟨rfl, ⟨c30, M56, ok, E.keep [1, 4, 5, 7, 22, 23, 24], h57⟩⟩
      clear hJ
      intro e a w hO
      obtain ⟨rfl, c58, M59, ok, E, h60⟩ := hO
      refine t_norm ?_
      refine wp_seq ?_
      refine c_region ?_
      refine l_val E ok (y_move rfl) rfl rfl fun a E => ?_
      refine l_val E ok (y_fieldAddr fo_29_2 rfl) rfl rfl fun a E => ?_
      refine l_val E ok (y_load one_23 rfl (Holds.own 1 rfl rfl)) rfl rfl fun a E => ?_
      obtain ⟨x61, e62, hF⟩ := bnd hF
      obtain ⟨b63, o64, es65, hl66, rr67, at68, yy69⟩ := idxAt sl_23 h5 e62 (P := Try.prog) (X := .tmp 35) (I := .const (Value.int .i64 0)) (kd := .i64) (ev_of E rfl) (ev_of E rfl)
      obtain rfl := rr67
      refine l_val E ok (yy69 _ _) rfl rfl fun a E => ?_
      refine l_val E ok (y_load one_4 rfl (Holds.ro at68)) rfl rfl fun a E => ?_
      refine l_val E ok (y_bneq Try.underlying4 rfl rfl) rfl rfl fun a E => ?_
      refine wpList_nil ?_
      refine t_norm ?_
      refine c_if E rfl (fun hc70 => ?_) (fun hc70 => ?_)
      rotate_left
      · replace hF := cond_f hc70 hF
        refine wp_skip ?_
        refine b_norm ?_
        refine t_norm ?_
        refine c_region ?_
        refine l_val E ok (y_add rfl rfl (InR.inc r29 (pL_InR h5) hc33)) rfl rfl fun a E => ?_
        refine l_val E ok (y_move rfl) rfl rfl fun a E => ?_
        refine wpList_nil ?_
        obtain rfl := Option.some.inj hF
        exact step_n ⟨c58, M59, ok, E.keep [1, 4, 5, 22, 23, 24], r28, (InR.inc r29 (pL_InR h5) hc33), h60⟩
      replace hF := cond_t hc70 hF
      refine c_region ?_
      refine l_val E ok (y_assign rfl) rfl rfl fun a E => ?_
      refine wpList_nil ?_
      refine b_norm ?_
      refine t_norm ?_
      refine c_region ?_
      refine l_val E ok (y_add rfl rfl (InR.inc r29 (pL_InR h5) hc33)) rfl rfl fun a E => ?_
      refine l_val E ok (y_move rfl) rfl rfl fun a E => ?_
      refine wpList_nil ?_
      obtain rfl := Option.some.inj hF
      exact step_n ⟨c58, M59, ok, E.keep [1, 4, 5, 22, 23, 24], (show InR .i64 (2) by decide), (InR.inc r29 (pL_InR h5) hc33), h60⟩
  intro e a w _ hO
  obtain ⟨rfl, c71, M72, ok, E, h73, r74⟩ := hO
  refine b_hit ?_
  refine t_norm ?_
  refine wp_seq ?_
  refine wp_label ?_
  refine t_norm ?_
  refine wp_seq ?_
  refine wp_block ?_
  obtain ⟨o79, hL, hF⟩ := bnd hF
  refine c_loop _ (fun (s : (List (Int)) × Int) a w => ∃ c80 M81, Ok u m0 (M81 :: [(b6, Obj.cells [(Value.int .i64 d_0.Start), c2, c4].toArray 29 (0, 0))] :: S) w ∧ Env 99 a [(1, (Value.pointer (some ⟨b6, 0, none⟩))), (4, c80), (5, (Value.int .i64 s.2))] ∧ ORow 3 1 (pI .i64) m0 c80 s.1 M81 ∧ InR .i64 s.2) (fun (b : ((List (Int)) × Int)) e a w => e = (.exit 2) ∧ ∃ c291 M292, Ok u m0 (M292 :: [(b6, Obj.cells [(Value.int .i64 d_0.Start), c2, c4].toArray 29 (0, 0))] :: S) w ∧ Env 99 a [(4, c291), (5, (Value.int .i64 b.2))] ∧ ORow 3 1 (pI .i64) m0 c291 b.1 M292 ∧ InR .i64 b.2) ?_ ?_ N _ a w hL ⟨c71, M72, ok, E.keep [1, 4, 5], h73, r74⟩
  rotate_left
  · intro e a w _ hO
    obtain ⟨rfl, c285, M286, ok, E, h287, r288⟩ := hO
    refine b_hit ?_
    refine t_norm ?_
    refine wp_seq ?_
    refine c_region ?_
    refine l_val E ok (y_move rfl) rfl rfl fun a E => ?_
    refine l_val E ok (y_move rfl) rfl rfl fun a E => ?_
    refine l_val E ok (y_assign rfl) rfl rfl fun a E => ?_
    refine l_val E ok (y_assign rfl) rfl rfl fun a E => ?_
    refine wpList_nil ?_
    refine t_norm ?_
    refine wp_ret ?_
    refine s_ret ?_
    obtain ⟨m289, hle, ok, hfz⟩ := (ok.frs 0 rfl).freeze
    have h290 := ORow.froz (mI .i64) h287 hle hfz (by decide)
    have le_m0 := le_m0.trans hle
    have h3 := (mL (mL (mI .i64))).up hle h3
    have h5 := (mL mB).up hle h5
    have hret : automaton_classes_R u m0 S (o79.1, o79.2) a w := ⟨m289, c285, le_m0, ok.drop, E.d, ⟨rv_t E rfl, rv_t E rfl, trivial⟩, h290, r288⟩
    obtain rfl := Option.some.inj hF
    exact fin _ _ hret
  rintro ⟨class_84, count_85⟩ a w r ⟨c86, M87, ok, E, h88, r89⟩ hF
  replace hF : automaton_classes_b2 N d_0 class_84 count_85 = some r := hF
  unfold automaton_classes_b2 at hF
  refine wp_block ?_
  refine wp_seq ?_
  refine c_region ?_
  refine l_makeMap (aggK pKey) (oneV (pI .i64)) E ok rfl rfl fun c90 M91 a w E ok h92 => ?_
  refine l_val E ok (y_assign rfl) rfl rfl fun a E => ?_
  refine wpList_nil ?_
  refine t_norm ?_
  refine wp_seq ?_
  refine c_region ?_
  refine l_val E ok (y_move rfl) rfl rfl fun a E => ?_
  refine l_val E ok (y_lenR sl_56 h88 rfl) rfl rfl fun a E => ?_
  obtain ⟨l93, e94, hF⟩ := bnd hF
  refine l_make (R := (pI .i64)) E ok sl_56 zero_3 rfl (pI_mk (show InR .i64 0 by decide)) rfl e94 rfl rfl fun c95 M96 a w E ok h97 => ?_
  refine l_val E ok (y_assign rfl) rfl rfl fun a E => ?_
  refine wpList_nil ?_
  refine t_norm ?_
  refine wp_seq ?_
  refine wp_seq ?_
  refine c_region ?_
  refine l_val E ok (y_fieldAddr fo_29_1 rfl) rfl rfl fun a E => ?_
  refine l_val E ok (y_load one_22 rfl (Holds.own 3 rfl rfl)) rfl rfl fun a E => ?_
  refine l_val E ok (y_lenL sl_22 h3 rfl) rfl rfl fun a E => ?_
  refine l_val E ok (y_move rfl) rfl rfl fun a E => ?_
  refine wpList_nil ?_
  refine t_norm ?_
  refine wp_block ?_
  obtain ⟨o106, hL, hF⟩ := bnd hF
  refine c_loop _ (fun (s : Int × (List (Key × Int)) × (List (Int))) a w => ∃ c108 M109 c111 M112, Ok u m0 (M112 :: M109 :: M87 :: [(b6, Obj.cells [(Value.int .i64 d_0.Start), c2, c4].toArray 29 (0, 0))] :: S) w ∧ Env 99 a [(1, (Value.pointer (some ⟨b6, 0, none⟩))), (4, c86), (5, (Value.int .i64 count_85)), (8, c108), (9, c111), (45, c2), (46, (Value.int .i64 (d_0.Next.length : Int))), (47, (Value.int .i64 s.1))] ∧ InR .i64 s.1 ∧ OMap (aggK pKey) (oneV (pI .i64)) m0 c108 s.2.1 M109 ∧ ORow 3 1 (pI .i64) m0 c111 s.2.2 M112) (fun (b : ((List (Key × Int)) × (List (Int)))) e a w => e = (.exit 4) ∧ ∃ c279 M280 c282 M283, Ok u m0 (M283 :: M280 :: M87 :: [(b6, Obj.cells [(Value.int .i64 d_0.Start), c2, c4].toArray 29 (0, 0))] :: S) w ∧ Env 99 a [(1, (Value.pointer (some ⟨b6, 0, none⟩))), (5, (Value.int .i64 count_85)), (8, c279), (9, c282)] ∧ OMap (aggK pKey) (oneV (pI .i64)) m0 c279 b.1 M280 ∧ ORow 3 1 (pI .i64) m0 c282 b.2 M283) ?_ ?_ N _ a w hL ⟨c90, M91, c95, M96, ok, E.keep [1, 4, 5, 8, 9, 45, 46, 47], (show InR .i64 (0) by decide), h92, h97⟩
  rotate_left
  · intro e a w _ hO
    obtain ⟨rfl, c272, M273, c275, M276, ok, E, h274, h277⟩ := hO
    refine b_hit ?_
    refine t_norm ?_
    refine wp_seq ?_
    refine c_region ?_
    refine l_val E ok (y_move rfl) rfl rfl fun a E => ?_
    refine l_val E ok (y_assign rfl) rfl rfl fun a E => ?_
    refine wpList_nil ?_
    refine t_norm ?_
    refine wp_seq ?_
    refine wp_seq ?_
    refine c_region ?_
    refine l_val E ok (y_move rfl) rfl rfl fun a E => ?_
    refine l_val E ok (y_mapLen 1 rfl Try.underlying78 h274 rfl) rfl rfl fun a E => ?_
    refine l_val E ok (y_move rfl) rfl rfl fun a E => ?_
    refine l_val E ok (y_eql rfl rfl) rfl rfl fun a E => ?_
    refine wpList_nil ?_
    refine t_norm ?_
    refine c_if E rfl (fun hc278 => ?_) (fun hc278 => ?_)
    · replace hF := cond_t hc278 hF
      refine wp_exit ?_
      refine t_exit ?_
      refine b_miss rfl ?_
      obtain rfl := Option.some.inj hF
      exact step_o (by nofun) (⟨rfl, ⟨c275, M276, (ok.pk 4 [0, 3] rfl (by decide)), E.keep [4, 5], h277, r89⟩⟩)
    replace hF := cond_f hc278 hF
    refine wp_skip ?_
    refine t_norm ?_
    refine c_region ?_
    refine l_val E ok (y_move rfl) rfl rfl fun a E => ?_
    refine l_val E ok (y_mapLen 1 rfl Try.underlying78 h274 rfl) rfl rfl fun a E => ?_
    refine l_val E ok (y_assign rfl) rfl rfl fun a E => ?_
    refine wpList_nil ?_
    refine b_norm ?_
    obtain rfl := Option.some.inj hF
    exact step_n ⟨c275, M276, (ok.pk 4 [0, 3] rfl (by decide)), E.keep [1, 4, 5], h277, (OMap.InR h274)⟩
  rintro ⟨x_114, known_115, finer_116⟩ a w r ⟨c118, M119, c121, M122, ok, E, r117, h120, h123⟩ hF
  replace hF : automaton_classes_b3 N d_0 class_84 x_114 known_115 finer_116 = some r := hF
  unfold automaton_classes_b3 at hF
  refine wp_seq ?_
  refine c_region ?_
  refine l_val E ok (y_lss rfl rfl) rfl rfl fun a E => ?_
  refine wpList_nil ?_
  refine t_norm ?_
  refine wp_seq ?_
  refine c_if E rfl (fun hc124 => ?_) (fun hc124 => ?_)
  rotate_left
  · replace hF := cond_f hc124 hF
    refine wp_exit ?_
    refine t_exit ?_
    obtain rfl := Option.some.inj hF
    exact step_o (by nofun) (⟨rfl, ⟨c118, M119, c121, M122, ok, E.keep [1, 5, 8, 9], h120, h123⟩⟩)
  replace hF := cond_t hc124 hF
  refine wp_skip ?_
  refine t_norm ?_
  refine wp_seq ?_
  refine wp_block ?_
  refine wp_seq ?_
  refine c_region ?_
  refine l_val E ok (y_move rfl) rfl rfl fun a E => ?_
  obtain ⟨x125, e126, hF⟩ := bnd hF
  obtain ⟨b127, o128, es129, hl130, rr131, at132, yy133⟩ := idxAt sl_22 h3 e126 (P := Try.prog) (X := .tmp 45) (I := .tmp 47) (kd := .i64) (ev_of E rfl) (ev_of E rfl)
  obtain ⟨c134, rfl, h135⟩ := pL_cell rr131
  refine l_val E ok (yy133 _ _) rfl rfl fun a E => ?_
  refine l_val E ok (y_load one_56 rfl (Holds.ro at132)) rfl rfl fun a E => ?_
  refine l_val E ok (y_assign rfl) rfl rfl fun a E => ?_
  refine l_val E ok (y_assign rfl) rfl rfl fun a E => ?_
  refine wpList_nil ?_
  refine t_norm ?_
  refine wp_seq ?_
  refine c_region ?_
  refine l_val E ok (y_move rfl) rfl rfl fun a E => ?_
  refine l_val E ok (y_move rfl) rfl rfl fun a E => ?_
  obtain ⟨x136, e137, hF⟩ := bnd hF
  obtain ⟨b138, o139, hp140, yy141⟩ := orowAt sl_56 h88 e137 (P := Try.prog) (X := .tmp 52) (I := .tmp 53) (kd := .i64) (ev_of E rfl) (ev_of E rfl)
  refine l_val E ok (yy141 _ _) rfl rfl fun a E => ?_
  obtain ⟨es142, hl143, rr144, hh145⟩ := orowGet h88 e137 hp140 (by decide)
  obtain ⟨rfl, r146⟩ := rr144
  refine l_val E ok (y_load one_3 rfl (hh145 _ _ _ 2 rfl)) rfl rfl fun a E => ?_
  refine l_val E ok (y_build (ps := [(0, .tmp 55)]) (qs := [(0, [(Value.int .i64 x136)])]) (cs := [(Value.int .i64 x136), (Value.int .i64 0), (Value.int .i64 0), (Value.int .i64 0), (Value.int .i64 0), (Value.int .i64 0), (Value.int .i64 0), (Value.int .i64 0), (Value.int .i64 0), (Value.int .i64 0), (Value.int .i64 0), (Value.int .i64 0)]) zero_81 places_81 rfl ⟨rfl, rfl, rfl, trivial⟩ rfl) rfl rfl fun a E => ?_
  refine l_alloc E ok zero_81 rfl rfl fun b147 a w E ok => ?_
  refine l_storeB E ok 0 rfl rfl rfl inf_81 rfl rfl ⟨rfl, rfl, rfl, rfl, rfl, rfl, rfl, rfl, rfl, rfl, rfl, rfl, trivial⟩ rfl rfl fun w ok => ?_
  refine wpList_nil ?_
  refine t_norm ?_
  refine wp_seq ?_
  refine wp_seq ?_
  refine c_region ?_
  refine l_val E ok (y_move rfl) rfl rfl fun a E => ?_
  refine l_val E ok (y_lenL sl_56 h135 rfl) rfl rfl fun a E => ?_
  refine l_val E ok (y_move rfl) rfl rfl fun a E => ?_
  refine wpList_nil ?_
  refine t_norm ?_
  refine wp_block ?_
  obtain ⟨o162, hL, hF⟩ := bnd hF
  refine c_loop _ (fun (s : Int × Key) a w => Ok u m0 ([(b147, Obj.cells [(Value.int .i64 s.2.class_), (Value.int .i64 s.2.next.e0), (Value.int .i64 s.2.next.e1), (Value.int .i64 s.2.next.e2), (Value.int .i64 s.2.next.e3), (Value.int .i64 s.2.next.e4), (Value.int .i64 s.2.next.e5), (Value.int .i64 s.2.next.e6), (Value.int .i64 s.2.next.e7), (Value.int .i64 s.2.next.e8), (Value.int .i64 s.2.next.e9), (Value.int .i64 s.2.next.e10)].toArray 81 (0, 0))] :: M122 :: M119 :: M87 :: [(b6, Obj.cells [(Value.int .i64 d_0.Start), c2, c4].toArray 29 (0, 0))] :: S) w ∧ Env 99 a [(1, (Value.pointer (some ⟨b6, 0, none⟩))), (4, c86), (5, (Value.int .i64 count_85)), (8, c118), (9, c121), (10, (Value.int .i64 x_114)), (12, (Value.pointer (some ⟨b147, 0, none⟩))), (45, c2), (46, (Value.int .i64 (d_0.Next.length : Int))), (47, (Value.int .i64 x_114)), (57, c134), (58, (Value.int .i64 (x125.length : Int))), (59, (Value.int .i64 s.1))] ∧ InR .i64 s.1 ∧ InR .i64 s.2.class_ ∧ InR .i64 s.2.next.e0 ∧ InR .i64 s.2.next.e1 ∧ InR .i64 s.2.next.e2 ∧ InR .i64 s.2.next.e3 ∧ InR .i64 s.2.next.e4 ∧ InR .i64 s.2.next.e5 ∧ InR .i64 s.2.next.e6 ∧ InR .i64 s.2.next.e7 ∧ InR .i64 s.2.next.e8 ∧ InR .i64 s.2.next.e9 ∧ InR .i64 s.2.next.e10) (fun (b : Key) e a w => e = (.exit 6) ∧ Ok u m0 ([(b147, Obj.cells [(Value.int .i64 b.class_), (Value.int .i64 b.next.e0), (Value.int .i64 b.next.e1), (Value.int .i64 b.next.e2), (Value.int .i64 b.next.e3), (Value.int .i64 b.next.e4), (Value.int .i64 b.next.e5), (Value.int .i64 b.next.e6), (Value.int .i64 b.next.e7), (Value.int .i64 b.next.e8), (Value.int .i64 b.next.e9), (Value.int .i64 b.next.e10)].toArray 81 (0, 0))] :: M122 :: M119 :: M87 :: [(b6, Obj.cells [(Value.int .i64 d_0.Start), c2, c4].toArray 29 (0, 0))] :: S) w ∧ Env 99 a [(1, (Value.pointer (some ⟨b6, 0, none⟩))), (4, c86), (5, (Value.int .i64 count_85)), (8, c118), (9, c121), (10, (Value.int .i64 x_114)), (12, (Value.pointer (some ⟨b147, 0, none⟩))), (45, c2), (46, (Value.int .i64 (d_0.Next.length : Int))), (47, (Value.int .i64 x_114))] ∧ InR .i64 b.class_ ∧ InR .i64 b.next.e0 ∧ InR .i64 b.next.e1 ∧ InR .i64 b.next.e2 ∧ InR .i64 b.next.e3 ∧ InR .i64 b.next.e4 ∧ InR .i64 b.next.e5 ∧ InR .i64 b.next.e6 ∧ InR .i64 b.next.e7 ∧ InR .i64 b.next.e8 ∧ InR .i64 b.next.e9 ∧ InR .i64 b.next.e10) ?_ ?_ N _ a w hL ⟨ok, E.keep [1, 4, 5, 8, 9, 10, 12, 45, 46, 47, 57, 58, 59], (show InR .i64 (0) by decide), r146, (show InR .i64 0 by decide), (show InR .i64 0 by decide), (show InR .i64 0 by decide), (show InR .i64 0 by decide), (show InR .i64 0 by decide), (show InR .i64 0 by decide), (show InR .i64 0 by decide), (show InR .i64 0 by decide), (show InR .i64 0 by decide), (show InR .i64 0 by decide), (show InR .i64 0 by decide)⟩
  · rintro ⟨x_176, x_177⟩ a w r ⟨ok, E, r178, r179, r180, r181, r182, r183, r184, r185, r186, r187, r188, r189, r190⟩ hF
    replace hF : automaton_classes_b4 N class_84 x125 x_176 x_177 = some r := hF
    unfold automaton_classes_b4 at hF
    refine wp_seq ?_
    refine c_region ?_
    refine l_val E ok (y_lss rfl rfl) rfl rfl fun a E => ?_
    refine wpList_nil ?_
    refine t_norm ?_
    refine wp_seq ?_
    refine c_if E rfl (fun hc191 => ?_) (fun hc191 => ?_)
    rotate_left
    · replace hF := cond_f hc191 hF
      refine wp_exit ?_
      refine t_exit ?_
      obtain rfl := Option.some.inj hF
      exact step_o (by nofun) (⟨rfl, ⟨ok, E.keep [1, 4, 5, 8, 9, 10, 12, 45, 46, 47], r179, r180, r181, r182, r183, r184, r185, r186, r187, r188, r189, r190⟩⟩)
    replace hF := cond_t hc191 hF
    refine wp_skip ?_
    refine t_norm ?_
    refine wp_seq ?_
    refine wp_block ?_
    refine wp_seq ?_
    refine c_region ?_
    refine l_val E ok (y_move rfl) rfl rfl fun a E => ?_
    obtain ⟨x192, e193, hF⟩ := bnd hF
    obtain ⟨b194, o195, es196, hl197, rr198, at199, yy200⟩ := idxAt sl_56 h135 e193 (P := Try.prog) (X := .tmp 57) (I := .tmp 59) (kd := .i64) (ev_of E rfl) (ev_of E rfl)
    obtain ⟨rfl, r201⟩ := rr198
    refine l_val E ok (yy200 _ _) rfl rfl fun a E => ?_
    refine l_val E ok (y_load one_3 rfl (Holds.ro at199)) rfl rfl fun a E => ?_
    refine l_val E ok (y_assign rfl) rfl rfl fun a E => ?_
    refine l_val E ok (y_assign rfl) rfl rfl fun a E => ?_
    refine wpList_nil ?_
    refine t_norm ?_
    refine c_region ?_
    refine l_val E ok (y_move rfl) rfl rfl fun a E => ?_
    refine l_val E ok (y_move rfl) rfl rfl fun a E => ?_
    refine l_val E ok (y_move rfl) rfl rfl fun a E => ?_
    obtain ⟨x202, e203, hF⟩ := bnd hF
    obtain ⟨b204, o205, hp206, yy207⟩ := orowAt sl_56 h88 e203 (P := Try.prog) (X := .tmp 65) (I := .tmp 66) (kd := .i64) (ev_of E rfl) (ev_of E rfl)
    refine l_val E ok (yy207 _ _) rfl rfl fun a E => ?_
    obtain ⟨es208, hl209, rr210, hh211⟩ := orowGet h88 e203 hp206 (by decide)
    obtain ⟨rfl, r212⟩ := rr210
    refine l_val E ok (y_load one_3 rfl (hh211 _ _ _ 3 rfl)) rfl rfl fun a E => ?_
    refine l_val E ok (y_fieldAddr fo_81_1 rfl) rfl rfl fun a E => ?_
    obtain ⟨x213, e214, hF⟩ := bnd hF
    replace e214 : idx (Arr11_Int.list x_177.next) x_176 = some x213 := e214
    refine l_val E ok (y_arAt art_79 rfl rfl (idx_range e214).1 (idx_range e214).2) rfl rfl fun a E => ?_
    obtain ⟨z215, e216, hF⟩ := bnd hF
    have h217 := Arr11_Int.set_list e216
    have h218 := AllP.setI (q := (InR .i64)) (xs := Arr11_Int.list x_177.next) ⟨r180, r181, r182, r183, r184, r185, r186, r187, r188, r189, r190, trivial⟩ r212 h217
    refine l_storeBI (c := [(Value.int .i64 x_177.class_), (Value.int .i64 x_177.next.e0), (Value.int .i64 x_177.next.e1), (Value.int .i64 x_177.next.e2), (Value.int .i64 x_177.next.e3), (Value.int .i64 x_177.next.e4), (Value.int .i64 x_177.next.e5), (Value.int .i64 x_177.next.e6), (Value.int .i64 x_177.next.e7), (Value.int .i64 x_177.next.e8), (Value.int .i64 x_177.next.e9), (Value.int .i64 x_177.next.e10)]) (c' := [(Value.int .i64 x_177.class_), (Value.int .i64 z215.e0), (Value.int .i64 z215.e1), (Value.int .i64 z215.e2), (Value.int .i64 z215.e3), (Value.int .i64 z215.e4), (Value.int .i64 z215.e5), (Value.int .i64 z215.e6), (Value.int .i64 z215.e7), (Value.int .i64 z215.e8), (Value.int .i64 z215.e9), (Value.int .i64 z215.e10)]) E ok 0 rfl rfl rfl inf_3 rfl rfl ⟨rfl, trivial⟩ (stb_le (n := 11) (idx_range e214).2 (Nat.le_of_ble_eq_true rfl)) (wr_at (f := (Value.int .i64)) (pre := [(Value.int .i64 x_177.class_)]) (post := []) (xs := Arr11_Int.list x_177.next) (ys := z215.list) rfl h217) rfl fun w ok => ?_
    refine wpList_nil ?_
    refine b_norm ?_
    refine t_norm ?_
    refine c_region ?_
    refine l_val E ok (y_add rfl rfl (InR.inc r178 (pL_InR h135) hc191)) rfl rfl fun a E => ?_
    refine l_val E ok (y_move rfl) rfl rfl fun a E => ?_
    refine wpList_nil ?_
    obtain rfl := Option.some.inj hF
    exact step_n ⟨ok, E.keep [1, 4, 5, 8, 9, 10, 12, 45, 46, 47, 57, 58, 59], (InR.inc r178 (pL_InR h135) hc191), r179, h218.1, h218.2.1, h218.2.2.1, h218.2.2.2.1, h218.2.2.2.2.1, h218.2.2.2.2.2.1, h218.2.2.2.2.2.2.1, h218.2.2.2.2.2.2.2.1, h218.2.2.2.2.2.2.2.2.1, h218.2.2.2.2.2.2.2.2.2.1, h218.2.2.2.2.2.2.2.2.2.2.1⟩
  intro e a w _ hO
  obtain ⟨rfl, ok, E, r219, r220, r221, r222, r223, r224, r225, r226, r227, r228, r229, r230⟩ := hO
  refine b_hit ?_
  refine t_norm ?_
  refine wp_seq ?_
  refine c_region ?_
  refine l_val E ok (y_move rfl) rfl rfl fun a E => ?_
  refine l_val E ok (y_loadAgg (cs := [(Value.int .i64 o162.class_), (Value.int .i64 o162.next.e0), (Value.int .i64 o162.next.e1), (Value.int .i64 o162.next.e2), (Value.int .i64 o162.next.e3), (Value.int .i64 o162.next.e4), (Value.int .i64 o162.next.e5), (Value.int .i64 o162.next.e6), (Value.int .i64 o162.next.e7), (Value.int .i64 o162.next.e8), (Value.int .i64 o162.next.e9), (Value.int .i64 o162.next.e10)]) agg_81 rfl rfl (Holds.own 0 rfl rfl)) rfl rfl fun a E => ?_
  obtain ⟨xv231, h232, yy233, yy234⟩ := mlook (P := Try.prog) (mo := .tmp 73) (ko := .tmp 74) (zx := (0 : Int)) ok 2 keyR_81 Try.underlying78 h120 rfl (ev_of E rfl) (ev_of E rfl) ⟨m0, _, rfl, ⟨rfl, r219, r220, r221, r222, r223, r224, r225, r226, r227, r228, r229, r230⟩⟩ zeroV_3 (pI_mk (show InR .i64 0 by decide))
  obtain ⟨rfl, r235⟩ := pI_inv h232
  refine l_val E ok (yy234 _) rfl rfl fun a E => ?_
  refine l_val E ok (y_move rfl) rfl rfl fun a E => ?_
  refine l_val E ok (y_extract rfl rfl) rfl rfl fun a E => ?_
  refine l_val E ok (y_extract rfl rfl) rfl rfl fun a E => ?_
  refine l_val E ok (y_assign rfl) rfl rfl fun a E => ?_
  refine l_val E ok (y_assign rfl) rfl rfl fun a E => ?_
  refine wpList_nil ?_
  refine t_norm ?_
  refine wp_seq ?_
  refine wp_seq ?_
  refine c_region ?_
  refine l_val E ok (y_move rfl) rfl rfl fun a E => ?_
  refine l_val E ok (y_not rfl) rfl rfl fun a E => ?_
  refine wpList_nil ?_
  refine t_norm ?_
  obtain ⟨o236, hJ, hF⟩ := bnd hF
  refine c_mono (Q' := fun e a w => e = .normal ∧ ∃ c237 M238, Ok u m0 ([(b147, Obj.cells [(Value.int .i64 o162.class_), (Value.int .i64 o162.next.e0), (Value.int .i64 o162.next.e1), (Value.int .i64 o162.next.e2), (Value.int .i64 o162.next.e3), (Value.int .i64 o162.next.e4), (Value.int .i64 o162.next.e5), (Value.int .i64 o162.next.e6), (Value.int .i64 o162.next.e7), (Value.int .i64 o162.next.e8), (Value.int .i64 o162.next.e9), (Value.int .i64 o162.next.e10)].toArray 81 (0, 0))] :: M122 :: M238 :: M87 :: [(b6, Obj.cells [(Value.int .i64 d_0.Start), c2, c4].toArray 29 (0, 0))] :: S) w ∧ Env 99 a [(1, (Value.pointer (some ⟨b6, 0, none⟩))), (4, c86), (5, (Value.int .i64 count_85)), (8, c237), (9, c121), (10, (Value.int .i64 x_114)), (15, (Value.int .i64 o236.2)), (45, c2), (46, (Value.int .i64 (d_0.Next.length : Int))), (47, (Value.int .i64 x_114))] ∧ OMap (aggK pKey) (oneV (pI .i64)) m0 c237 o236.1 M238 ∧ InR .i64 o236.2) ?_ ?_
  rotate_left
  · clear hJ
    intro e a w hO
    obtain ⟨rfl, c246, M247, ok, E, h248, r249⟩ := hO
    refine t_norm ?_
    refine c_region ?_
    refine l_val E ok (y_move rfl) rfl rfl fun a E => ?_
    refine l_val E ok (y_move rfl) rfl rfl fun a E => ?_
    refine l_val E ok (y_move rfl) rfl rfl fun a E => ?_
    obtain ⟨x250, e251, hF⟩ := bnd hF
    obtain ⟨b252, o253, hp254, yy255⟩ := orowAt sl_56 h123 e251 (P := Try.prog) (X := .tmp 85) (I := .tmp 86) (kd := .i64) (ev_of E rfl) (ev_of E rfl)
    refine l_val E ok (yy255 _ _) rfl rfl fun a E => ?_
    obtain ⟨l256, e257, hF⟩ := bnd hF
    refine l_storeRow (R := (pI .i64)) E ok 1 rfl h123 e251 hp254 rfl rfl inf_3 rfl rfl rfl ⟨rfl, trivial⟩ (pI_mk r249) e257 rfl fun M258 w ok h259 => ?_
    refine wpList_nil ?_
    refine b_norm ?_
    refine t_norm ?_
    refine c_region ?_
    refine l_val E ok (y_add rfl rfl (InR.inc r117 (pL_InR h3) hc124)) rfl rfl fun a E => ?_
    refine l_val E ok (y_move rfl) rfl rfl fun a E => ?_
    refine wpList_nil ?_
    obtain rfl := Option.some.inj hF
    exact step_n ⟨c246, M247, c121, M258, (ok.pk 5 [1, 2, 3, 4] rfl (by decide)), E.keep [1, 4, 5, 8, 9, 45, 46, 47], (InR.inc r117 (pL_InR h3) hc124), h248, h259⟩
  replace hF := hJ
  clear hJ
  refine c_if E rfl (fun hc241 => ?_) (fun hc241 => ?_)
  rotate_left
  · replace hF := cond_f hc241 hF
    refine wp_skip ?_
    obtain rfl := Option.some.inj hF
    exact ⟨rfl, ⟨c118, M119, ok, E.keep [1, 4, 5, 8, 9, 10, 15, 45, 46, 47], h120, r235⟩⟩
  replace hF := cond_t hc241 hF
  refine wp_seq ?_
  refine c_region ?_
  refine l_val E ok (y_move rfl) rfl rfl fun a E => ?_
  refine l_val E ok (y_mapLen 2 rfl Try.underlying78 h120 rfl) rfl rfl fun a E => ?_
  refine l_val E ok (y_assign rfl) rfl rfl fun a E => ?_
  refine wpList_nil ?_
  refine t_norm ?_
  refine c_region ?_
  refine l_val E ok (y_move rfl) rfl rfl fun a E => ?_
  refine l_val E ok (y_loadAgg (cs := [(Value.int .i64 o162.class_), (Value.int .i64 o162.next.e0), (Value.int .i64 o162.next.e1), (Value.int .i64 o162.next.e2), (Value.int .i64 o162.next.e3), (Value.int .i64 o162.next.e4), (Value.int .i64 o162.next.e5), (Value.int .i64 o162.next.e6), (Value.int .i64 o162.next.e7), (Value.int .i64 o162.next.e8), (Value.int .i64 o162.next.e9), (Value.int .i64 o162.next.e10)]) agg_81 rfl rfl (Holds.own 0 rfl rfl)) rfl rfl fun a E => ?_
  refine l_val E ok (y_move rfl) rfl rfl fun a E => ?_
  obtain ⟨l242, e243, hF⟩ := bnd hF
  refine l_mset (.inl rfl) E ok 2 keyR_81 Try.underlying78 h120 rfl rfl rfl rfl ⟨m0, _, rfl, ⟨rfl, r219, r220, r221, r222, r223, r224, r225, r226, r227, r228, r229, r230⟩⟩ (pI_mk (OMap.InR h120)) e243 rfl fun M244 w ok h245 => ?_
  refine wpList_nil ?_
  obtain rfl := Option.some.inj hF
  exact ⟨rfl, ⟨c118, M244, ok, E.keep [1, 4, 5, 8, 9, 10, 15, 45, 46, 47], h245, (OMap.InR h120)⟩⟩

def automaton_minimal_R (u : World) (m0 : Mem) (S : Segs) (r : DFA) (a : Act) (w : World) : Prop :=
  ∃ m1 v0, m0.le m1 ∧ Ok u m1 S w ∧ a.defers = [] ∧ RVs Try.prog a w [.c 2 29 (.agg v0.toArray)] ∧ pDFA m1 v0 r
set_option maxHeartbeats 4000000 in
set_option maxRecDepth 100000 in
theorem automaton_minimal_w {u : World} {m0 : Mem} {S : Segs} {w : World} (N : Nat) (vd_0 : List Value) (d_0 : DFA) (hd_0 : pDFA m0 vd_0 d_0) {r : DFA} (hF : automaton_minimal N d_0 = some r) (ok : Ok u m0 S w) :
    Calls Try.prog 41 [.agg vd_0.toArray].toArray w fun e w' => ∃ m1 v0, e = .returned (.agg v0.toArray) ∧ m0.le m1 ∧ Ok u m1 S w' ∧ pDFA m1 v0 r := by
  obtain ⟨c2, c4, rfl, r1, h3, h5⟩ := hd_0
  have le_m0 := Mem.le.refl m0
  unfold automaton_minimal at hF
  have fin : ∀ a w, automaton_minimal_R u m0 S r a w → bodyPost Try.prog Try.f41 (fun e w' => ∃ m1 v0, e = .returned (.agg v0.toArray) ∧ m0.le m1 ∧ Ok u m1 S w' ∧ pDFA m1 v0 r) .ret a w := by
    intro a w h
    obtain ⟨m1, v0, hle, ok, hd, hrv, h0⟩ := h
    exact c_ret2 [.c 2 29 (.agg v0.toArray)] hd rfl hrv ⟨m1, v0, rfl, hle, ok, h0⟩
  refine enter Try.func41 rfl rfl rfl fun a E => ?_
  refine wp_seq ?_
  refine c_region ?_
  refine l_box E ok rfl rfl rfl fun b6 a w E ok => ?_
  refine l_alloc E ok zero_29 rfl rfl fun b7 a w E ok => ?_
  refine wpList_nil ?_
  refine t_norm ?_
  refine wp_seq ?_
  refine c_region ?_
  refine l_val E ok (y_loadAgg (cs := [(Value.int .i64 d_0.Start), c2, c4]) agg_29 rfl rfl (Holds.own 1 rfl rfl)) rfl rfl fun a E => ?_
  obtain ⟨r8, e9, hF⟩ := bnd hF
  refine l_call E go_48 rfl (automaton_reachable_w N _ d_0 ⟨_, _, rfl, r1, h3, h5⟩ e9 ok) rfl rfl ?_
  rintro _ w ⟨m10, vs11, rfl, hle, ok, h12⟩
  have le_m0 := le_m0.trans hle
  have h3 := (mL (mL (mI .i64))).up hle h3
  have h5 := (mL mB).up hle h5
  obtain ⟨c14, c16, rfl, r13, h15, h17⟩ := h12
  refine ⟨_, rfl, fun a E => ?_⟩
  refine l_storeB E ok 1 rfl rfl rfl inf_29 rfl rfl ⟨rfl, (pL_one h15), (pL_one h17), trivial⟩ rfl rfl fun w ok => ?_
  refine wpList_nil ?_
  refine t_norm ?_
  refine wp_seq ?_
  refine c_region ?_
  refine l_val E ok (y_loadAgg (cs := [(Value.int .i64 r8.Start), c14, c16]) agg_29 rfl rfl (Holds.own 1 rfl rfl)) rfl rfl fun a E => ?_
  obtain ⟨r18, e19, hF⟩ := bnd hF
  refine l_call E go_49 rfl (automaton_classes_w N _ r8 ⟨_, _, rfl, r13, h15, h17⟩ e19 ok) rfl rfl ?_
  rintro _ w ⟨m20, c21, rfl, hle, ok, h22, r23⟩
  have le_m0 := le_m0.trans hle
  have h3 := (mL (mL (mI .i64))).up hle h3
  have h5 := (mL mB).up hle h5
  have h15 := (mL (mL (mI .i64))).up hle h15
  have h17 := (mL mB).up hle h17
  refine ⟨_, rfl, fun a E => ?_⟩
  refine l_val E ok (y_move rfl) rfl rfl fun a E => ?_
  refine l_val E ok (y_extract rfl rfl) rfl rfl fun a E => ?_
  refine l_val E ok (y_extract rfl rfl) rfl rfl fun a E => ?_
  refine l_val E ok (y_assign rfl) rfl rfl fun a E => ?_
  refine l_val E ok (y_assign rfl) rfl rfl fun a E => ?_
  refine wpList_nil ?_
  refine t_norm ?_
  refine wp_seq ?_
  obtain ⟨o24, hJ, hF⟩ := bnd hF
  refine c_mono (Q' := fun e a w => e = .normal ∧ ∃ m25 b33 c27 M28 c30 M31, m20.le m25 ∧ Ok u m25 ([(b33, Obj.cells [(Value.int .i64 o24.Start), c27, c30].toArray 29 (0, 0))] :: M31 :: M28 :: [(b7, Obj.cells [(Value.int .i64 0), (Value.slice none 0 0), (Value.slice none 0 0)].toArray 29 (0, 0))] :: [(b6, Obj.cells [(Value.int .i64 r8.Start), c14, c16].toArray 29 (0, 0))] :: S) w ∧ Env 72 a [(1, (Value.pointer (some ⟨b6, 0, none⟩))), (2, (Value.pointer (some ⟨b7, 0, none⟩))), (3, c21), (5, (Value.pointer (some ⟨b33, 0, none⟩)))] ∧ InR .i64 o24.Start ∧ OGrid m25 c27 o24.Next M28 ∧ ORow 4 1 pB m25 c30 o24.Accept M31) ?_ ?_
  · as_aux_lemma =>
      replace hF := hJ
      clear hJ
      have le_m20 := Mem.le.refl m20
      obtain ⟨x34, e35, hF⟩ := bnd hF
      obtain ⟨g44, e45, hF⟩ := bnd hF
      obtain ⟨l50, e51, hF⟩ := bnd hF
      obtain rfl := Option.some.inj hF
      refine k_begin [] (Cls u m20 ([(b7, Obj.cells [(Value.int .i64 0), (Value.slice none 0 0), (Value.slice none 0 0)].toArray 29 (0, 0))] :: [(b6, Obj.cells [(Value.int .i64 r8.Start), c14, c16].toArray 29 (0, 0))] :: [])) (Cls u m20 ([(b7, Obj.cells [(Value.int .i64 0), (Value.slice none 0 0), (Value.slice none 0 0)].toArray 29 (0, 0))] :: [(b6, Obj.cells [(Value.int .i64 r8.Start), c14, c16].toArray 29 (0, 0))] :: [])) (by kernel_rfl) ?_
      intro w hw
      replace ok := okdrew ok hw
      clear hw
      have h15_o := h15
      have h17_o := h17
      have h22_o := h22
      refine k_next (cl1 ⟨m20, _, le_m20, ok, ⟨memAt 0 rfl, memAt 1 rfl, trivial⟩⟩ ⟨m20, _, le_m20, ok, ⟨memAt 0 rfl, memAt 1 rfl, trivial⟩⟩) fun hT => ?_
      refine k_take 0 E rfl (by kernel_rfl) nP hT (y_move rfl) rfl rfl fun a E => ?_
      refine k_take 1 E rfl (by kernel_rfl) nP hT (y_fieldAddr fo_29_0 rfl) rfl rfl fun a E => ?_
      refine k_take 2 E rfl (by kernel_rfl) nP hT (y_load one_3 rfl (Holds.cown 1 rfl rfl)) rfl rfl fun a E => ?_
      obtain ⟨b56, o57, es58, hl59, rr60, at61, yy62⟩ := idxAt sl_56 h22 e35 (P := Try.prog) (X := .tmp 17) (I := .tmp 19) (kd := .i64) (ev_of E rfl) (ev_of E rfl)
      obtain ⟨rfl, r63⟩ := rr60
      refine k_take 3 E rfl (by kernel_rfl) nP hT (yy62 _ _) rfl rfl fun a E => ?_
      refine k_take 4 E rfl (by kernel_rfl) nP hT (y_load one_3 rfl (Holds.cro at61)) rfl rfl fun a E => ?_
      refine k_take 5 E rfl (by kernel_rfl) nP hT (y_move rfl) rfl rfl fun a E => ?_
      refine k_take 7 E rfl (by kernel_rfl) nP hT (y_move rfl) rfl rfl fun a E => ?_
      refine k_all [6, 8, 10] (by kernel_rfl) rfl (all_c ?_ (all_c ?_ (all_c ?_ (all_n))))
      · refine wpOp_of_list (o := _) rfl ?_
        refine l_call E go_50 rfl (automaton_grid_w N r18.2 r23 e45 ok) rfl rfl ?_
        rintro _ w ⟨m64, c65, M66, rfl, hle, ok, h67⟩
        have le_m0 := le_m0.trans hle
        have le_m20 := le_m20.trans hle
        have h3 := (mL (mL (mI .i64))).up hle h3
        have h5 := (mL mB).up hle h5
        have h15 := (mL (mL (mI .i64))).up hle h15
        have h17 := (mL mB).up hle h17
        have h22 := (mL (mI .i64)).up hle h22
        have at61 := At.up hle at61
        refine ⟨_, rfl, fun a E => ?_⟩
        refine wpList_nil ?_
        refine t_norm ?_
        refine k_next (cl1 ⟨m64, _, le_m20, ok, ⟨memAt 1 rfl, memAt 2 rfl, trivial⟩⟩ ⟨m64, _, le_m20, ok, ⟨memAt 1 rfl, memAt 2 rfl, trivial⟩⟩) fun hT => ?_
        refine k_all [8, 10] (by kernel_rfl) rfl (all_c ?_ (all_c ?_ (all_n)))
        · refine wpOp_of_list (o := _) rfl ?_
          refine l_make (R := pB) E ok sl_23 zero_4 rfl pB_mk rfl e51 rfl rfl fun c68 M69 a w E ok h70 => ?_
          refine wpList_nil ?_
          refine t_norm ?_
          refine k_next (cl1 ⟨m64, _, le_m20, ok, ⟨memAt 2 rfl, memAt 3 rfl, trivial⟩⟩ ⟨m64, _, le_m20, ok, ⟨memAt 2 rfl, memAt 3 rfl, trivial⟩⟩) fun hT => ?_
          refine k_take 9 E rfl (by kernel_rfl) nP hT (y_build (ps := [(0, .tmp 21), (1, .tmp 23), (2, .tmp 25)]) (qs := [(0, [(Value.int .i64 x34)]), (1, [c65]), (2, [c68])]) (cs := [(Value.int .i64 x34), c65, c68]) zero_29 places_29 rfl ⟨rfl, rfl, rfl, ⟨rfl, (OGrid.cells h67), rfl, ⟨rfl, (ORow.cells h70), rfl, trivial⟩⟩⟩ rfl) rfl rfl fun a E => ?_
          refine k_all [10] (by kernel_rfl) rfl (one_c ?_)
          · refine wpOp_of_list (o := _) rfl ?_
            refine l_alloc E ok zero_29 rfl rfl fun b71 a w E ok => ?_
            refine wpList_nil ?_
            refine t_norm ?_
            refine k_next (cl1 ⟨m64, _, le_m20, ok, ⟨memAt 3 rfl, memAt 4 rfl, trivial⟩⟩ ⟨m64, _, le_m20, ok, ⟨memAt 3 rfl, memAt 4 rfl, trivial⟩⟩) fun hT => ?_
            refine k_all [11] (by kernel_rfl) rfl (one_c ?_)
            · refine wpOp_of_list (o := _) rfl ?_
              refine l_storeB E ok 0 rfl rfl rfl inf_29 rfl rfl ⟨rfl, (OGrid.one h67), (ORow.one h70), trivial⟩ rfl rfl fun w ok => ?_
              refine wpList_nil ?_
              refine t_norm ?_
              refine k_next (cl1 ⟨m64, _, le_m20, ok, ⟨memAt 3 rfl, memAt 4 rfl, trivial⟩⟩ ⟨m64, _, le_m20, ok, ⟨memAt 3 rfl, memAt 4 rfl, trivial⟩⟩) fun hT => ?_
              refine k_done (by kernel_rfl) ?_
              exact ⟨rfl, ⟨m64, b71, c65, M66, c68, M69, le_m20, ok, E.keep [1, 2, 3, 5], r63, h67, h70⟩⟩
        refine wpOp_of_list (o := _) rfl ?_
        refine l_alloc E ok zero_29 rfl rfl fun b72 a w E ok => ?_
        refine wpList_nil ?_
        refine t_norm ?_
        refine k_next (cl1 ⟨m64, _, le_m20, ok, ⟨memAt 2 rfl, memAt 3 rfl, trivial⟩⟩ ⟨m64, _, le_m20, ok, ⟨memAt 2 rfl, memAt 3 rfl, trivial⟩⟩) fun hT => ?_
        refine k_all [8] (by kernel_rfl) rfl (one_c ?_)
        · refine wpOp_of_list (o := _) rfl ?_
          refine l_make (R := pB) E ok sl_23 zero_4 rfl pB_mk rfl e51 rfl rfl fun c73 M74 a w E ok h75 => ?_
          refine wpList_nil ?_
          refine t_norm ?_
          refine k_next (cl1 ⟨m64, _, le_m20, ok, ⟨memAt 3 rfl, memAt 4 rfl, trivial⟩⟩ ⟨m64, _, le_m20, ok, ⟨memAt 3 rfl, memAt 4 rfl, trivial⟩⟩) fun hT => ?_
          refine k_take 9 E rfl (by kernel_rfl) nP hT (y_build (ps := [(0, .tmp 21), (1, .tmp 23), (2, .tmp 25)]) (qs := [(0, [(Value.int .i64 x34)]), (1, [c65]), (2, [c73])]) (cs := [(Value.int .i64 x34), c65, c73]) zero_29 places_29 rfl ⟨rfl, rfl, rfl, ⟨rfl, (OGrid.cells h67), rfl, ⟨rfl, (ORow.cells h75), rfl, trivial⟩⟩⟩ rfl) rfl rfl fun a E => ?_
          refine k_all [11] (by kernel_rfl) rfl (one_c ?_)
          · refine wpOp_of_list (o := _) rfl ?_
            refine l_storeB E ok 1 rfl rfl rfl inf_29 rfl rfl ⟨rfl, (OGrid.one h67), (ORow.one h75), trivial⟩ rfl rfl fun w ok => ?_
            refine wpList_nil ?_
            refine t_norm ?_
            refine k_next (cl1 ⟨m64, _, le_m20, ok, ⟨memAt 3 rfl, memAt 4 rfl, trivial⟩⟩ ⟨m64, _, le_m20, ok, ⟨memAt 3 rfl, memAt 4 rfl, trivial⟩⟩) fun hT => ?_
            refine k_done (by kernel_rfl) ?_
            exact ⟨rfl, ⟨m64, b72, c65, M66, c73, M74, le_m20, (ok.pk 5 [1, 0, 2, 3, 4] rfl (by decide)), E.keep [1, 2, 3, 5], r63, h67, h75⟩⟩
      · refine wpOp_of_list (o := _) rfl ?_
        refine l_make (R := pB) E ok sl_23 zero_4 rfl pB_mk rfl e51 rfl rfl fun c76 M77 a w E ok h78 => ?_
        refine wpList_nil ?_
        refine t_norm ?_
        refine k_next (cl1 ⟨m20, _, le_m20, ok, ⟨memAt 1 rfl, memAt 2 rfl, trivial⟩⟩ ⟨m20, _, le_m20, ok, ⟨memAt 1 rfl, memAt 2 rfl, trivial⟩⟩) fun hT => ?_
        refine k_all [6, 10] (by kernel_rfl) rfl (all_c ?_ (all_c ?_ (all_n)))
        · refine wpOp_of_list (o := _) rfl ?_
          refine l_call E go_50 rfl (automaton_grid_w N r18.2 r23 e45 ok) rfl rfl ?_
          rintro _ w ⟨m79, c80, M81, rfl, hle, ok, h82⟩
          have le_m0 := le_m0.trans hle
          have le_m20 := le_m20.trans hle
          have h3 := (mL (mL (mI .i64))).up hle h3
          have h5 := (mL mB).up hle h5
          have h15 := (mL (mL (mI .i64))).up hle h15
          have h17 := (mL mB).up hle h17
          have h22 := (mL (mI .i64)).up hle h22
          have at61 := At.up hle at61
          have h78 := ORow.up mB hle h78
          refine ⟨_, rfl, fun a E => ?_⟩
          refine wpList_nil ?_
          refine t_norm ?_
          refine k_next (cl1 ⟨m79, _, le_m20, ok, ⟨memAt 2 rfl, memAt 3 rfl, trivial⟩⟩ ⟨m79, _, le_m20, ok, ⟨memAt 2 rfl, memAt 3 rfl, trivial⟩⟩) fun hT => ?_
          refine k_take 9 E rfl (by kernel_rfl) nP hT (y_build (ps := [(0, .tmp 21), (1, .tmp 23), (2, .tmp 25)]) (qs := [(0, [(Value.int .i64 x34)]), (1, [c80]), (2, [c76])]) (cs := [(Value.int .i64 x34), c80, c76]) zero_29 places_29 rfl ⟨rfl, rfl, rfl, ⟨rfl, (OGrid.cells h82), rfl, ⟨rfl, (ORow.cells h78), rfl, trivial⟩⟩⟩ rfl) rfl rfl fun a E => ?_
          refine k_all [10] (by kernel_rfl) rfl (one_c ?_)
          · refine wpOp_of_list (o := _) rfl ?_
            refine l_alloc E ok zero_29 rfl rfl fun b83 a w E ok => ?_
            refine wpList_nil ?_
            refine t_norm ?_
            refine k_next (cl1 ⟨m79, _, le_m20, ok, ⟨memAt 3 rfl, memAt 4 rfl, trivial⟩⟩ ⟨m79, _, le_m20, ok, ⟨memAt 3 rfl, memAt 4 rfl, trivial⟩⟩) fun hT => ?_
            refine k_all [11] (by kernel_rfl) rfl (one_c ?_)
            · refine wpOp_of_list (o := _) rfl ?_
              refine l_storeB E ok 0 rfl rfl rfl inf_29 rfl rfl ⟨rfl, (OGrid.one h82), (ORow.one h78), trivial⟩ rfl rfl fun w ok => ?_
              refine wpList_nil ?_
              refine t_norm ?_
              refine k_next (cl1 ⟨m79, _, le_m20, ok, ⟨memAt 3 rfl, memAt 4 rfl, trivial⟩⟩ ⟨m79, _, le_m20, ok, ⟨memAt 3 rfl, memAt 4 rfl, trivial⟩⟩) fun hT => ?_
              refine k_done (by kernel_rfl) ?_
              exact ⟨rfl, ⟨m79, b83, c80, M81, c76, M77, le_m20, (ok.pk 5 [0, 2, 1, 3, 4] rfl (by decide)), E.keep [1, 2, 3, 5], r63, h82, h78⟩⟩
        refine wpOp_of_list (o := _) rfl ?_
        refine l_alloc E ok zero_29 rfl rfl fun b84 a w E ok => ?_
        refine wpList_nil ?_
        refine t_norm ?_
        refine k_next (cl1 ⟨m20, _, le_m20, ok, ⟨memAt 2 rfl, memAt 3 rfl, trivial⟩⟩ ⟨m20, _, le_m20, ok, ⟨memAt 2 rfl, memAt 3 rfl, trivial⟩⟩) fun hT => ?_
        refine k_all [6] (by kernel_rfl) rfl (one_c ?_)
        · refine wpOp_of_list (o := _) rfl ?_
          refine l_call E go_50 rfl (automaton_grid_w N r18.2 r23 e45 ok) rfl rfl ?_
          rintro _ w ⟨m85, c86, M87, rfl, hle, ok, h88⟩
          have le_m0 := le_m0.trans hle
          have le_m20 := le_m20.trans hle
          have h3 := (mL (mL (mI .i64))).up hle h3
          have h5 := (mL mB).up hle h5
          have h15 := (mL (mL (mI .i64))).up hle h15
          have h17 := (mL mB).up hle h17
          have h22 := (mL (mI .i64)).up hle h22
          have at61 := At.up hle at61
          have h78 := ORow.up mB hle h78
          refine ⟨_, rfl, fun a E => ?_⟩
          refine wpList_nil ?_
          refine t_norm ?_
          refine k_next (cl1 ⟨m85, _, le_m20, ok, ⟨memAt 3 rfl, memAt 4 rfl, trivial⟩⟩ ⟨m85, _, le_m20, ok, ⟨memAt 3 rfl, memAt 4 rfl, trivial⟩⟩) fun hT => ?_
          refine k_take 9 E rfl (by kernel_rfl) nP hT (y_build (ps := [(0, .tmp 21), (1, .tmp 23), (2, .tmp 25)]) (qs := [(0, [(Value.int .i64 x34)]), (1, [c86]), (2, [c76])]) (cs := [(Value.int .i64 x34), c86, c76]) zero_29 places_29 rfl ⟨rfl, rfl, rfl, ⟨rfl, (OGrid.cells h88), rfl, ⟨rfl, (ORow.cells h78), rfl, trivial⟩⟩⟩ rfl) rfl rfl fun a E => ?_
          refine k_all [11] (by kernel_rfl) rfl (one_c ?_)
          · refine wpOp_of_list (o := _) rfl ?_
            refine l_storeB E ok 1 rfl rfl rfl inf_29 rfl rfl ⟨rfl, (OGrid.one h88), (ORow.one h78), trivial⟩ rfl rfl fun w ok => ?_
            refine wpList_nil ?_
            refine t_norm ?_
            refine k_next (cl1 ⟨m85, _, le_m20, ok, ⟨memAt 3 rfl, memAt 4 rfl, trivial⟩⟩ ⟨m85, _, le_m20, ok, ⟨memAt 3 rfl, memAt 4 rfl, trivial⟩⟩) fun hT => ?_
            refine k_done (by kernel_rfl) ?_
            exact ⟨rfl, ⟨m85, b84, c86, M87, c76, M77, le_m20, (ok.pk 5 [1, 2, 0, 3, 4] rfl (by decide)), E.keep [1, 2, 3, 5], r63, h88, h78⟩⟩
      refine wpOp_of_list (o := _) rfl ?_
      refine l_alloc E ok zero_29 rfl rfl fun b89 a w E ok => ?_
      refine wpList_nil ?_
      refine t_norm ?_
      refine k_next (cl1 ⟨m20, _, le_m20, ok, ⟨memAt 1 rfl, memAt 2 rfl, trivial⟩⟩ ⟨m20, _, le_m20, ok, ⟨memAt 1 rfl, memAt 2 rfl, trivial⟩⟩) fun hT => ?_
      refine k_all [6, 8] (by kernel_rfl) rfl (all_c ?_ (all_c ?_ (all_n)))
      · refine wpOp_of_list (o := _) rfl ?_
        refine l_call E go_50 rfl (automaton_grid_w N r18.2 r23 e45 ok) rfl rfl ?_
        rintro _ w ⟨m90, c91, M92, rfl, hle, ok, h93⟩
        have le_m0 := le_m0.trans hle
        have le_m20 := le_m20.trans hle
        have h3 := (mL (mL (mI .i64))).up hle h3
        have h5 := (mL mB).up hle h5
        have h15 := (mL (mL (mI .i64))).up hle h15
        have h17 := (mL mB).up hle h17
        have h22 := (mL (mI .i64)).up hle h22
        have at61 := At.up hle at61
        refine ⟨_, rfl, fun a E => ?_⟩
        refine wpList_nil ?_
        refine t_norm ?_
        refine k_next (cl1 ⟨m90, _, le_m20, ok, ⟨memAt 2 rfl, memAt 3 rfl, trivial⟩⟩ ⟨m90, _, le_m20, ok, ⟨memAt 2 rfl, memAt 3 rfl, trivial⟩⟩) fun hT => ?_
        refine k_all [8] (by kernel_rfl) rfl (one_c ?_)
        · refine wpOp_of_list (o := _) rfl ?_
          refine l_make (R := pB) E ok sl_23 zero_4 rfl pB_mk rfl e51 rfl rfl fun c94 M95 a w E ok h96 => ?_
          refine wpList_nil ?_
          refine t_norm ?_
          refine k_next (cl1 ⟨m90, _, le_m20, ok, ⟨memAt 3 rfl, memAt 4 rfl, trivial⟩⟩ ⟨m90, _, le_m20, ok, ⟨memAt 3 rfl, memAt 4 rfl, trivial⟩⟩) fun hT => ?_
          refine k_take 9 E rfl (by kernel_rfl) nP hT (y_build (ps := [(0, .tmp 21), (1, .tmp 23), (2, .tmp 25)]) (qs := [(0, [(Value.int .i64 x34)]), (1, [c91]), (2, [c94])]) (cs := [(Value.int .i64 x34), c91, c94]) zero_29 places_29 rfl ⟨rfl, rfl, rfl, ⟨rfl, (OGrid.cells h93), rfl, ⟨rfl, (ORow.cells h96), rfl, trivial⟩⟩⟩ rfl) rfl rfl fun a E => ?_
          refine k_all [11] (by kernel_rfl) rfl (one_c ?_)
          · refine wpOp_of_list (o := _) rfl ?_
            refine l_storeB E ok 2 rfl rfl rfl inf_29 rfl rfl ⟨rfl, (OGrid.one h93), (ORow.one h96), trivial⟩ rfl rfl fun w ok => ?_
            refine wpList_nil ?_
            refine t_norm ?_
            refine k_next (cl1 ⟨m90, _, le_m20, ok, ⟨memAt 3 rfl, memAt 4 rfl, trivial⟩⟩ ⟨m90, _, le_m20, ok, ⟨memAt 3 rfl, memAt 4 rfl, trivial⟩⟩) fun hT => ?_
            refine k_done (by kernel_rfl) ?_
            exact ⟨rfl, ⟨m90, b89, c91, M92, c94, M95, le_m20, (ok.pk 5 [2, 0, 1, 3, 4] rfl (by decide)), E.keep [1, 2, 3, 5], r63, h93, h96⟩⟩
      refine wpOp_of_list (o := _) rfl ?_
      refine l_make (R := pB) E ok sl_23 zero_4 rfl pB_mk rfl e51 rfl rfl fun c97 M98 a w E ok h99 => ?_
      refine wpList_nil ?_
      refine t_norm ?_
      refine k_next (cl1 ⟨m20, _, le_m20, ok, ⟨memAt 2 rfl, memAt 3 rfl, trivial⟩⟩ ⟨m20, _, le_m20, ok, ⟨memAt 2 rfl, memAt 3 rfl, trivial⟩⟩) fun hT => ?_
      refine k_all [6] (by kernel_rfl) rfl (one_c ?_)
      · refine wpOp_of_list (o := _) rfl ?_
        refine l_call E go_50 rfl (automaton_grid_w N r18.2 r23 e45 ok) rfl rfl ?_
        rintro _ w ⟨m100, c101, M102, rfl, hle, ok, h103⟩
        have le_m0 := le_m0.trans hle
        have le_m20 := le_m20.trans hle
        have h3 := (mL (mL (mI .i64))).up hle h3
        have h5 := (mL mB).up hle h5
        have h15 := (mL (mL (mI .i64))).up hle h15
        have h17 := (mL mB).up hle h17
        have h22 := (mL (mI .i64)).up hle h22
        have at61 := At.up hle at61
        have h99 := ORow.up mB hle h99
        refine ⟨_, rfl, fun a E => ?_⟩
        refine wpList_nil ?_
        refine t_norm ?_
        refine k_next (cl1 ⟨m100, _, le_m20, ok, ⟨memAt 3 rfl, memAt 4 rfl, trivial⟩⟩ ⟨m100, _, le_m20, ok, ⟨memAt 3 rfl, memAt 4 rfl, trivial⟩⟩) fun hT => ?_
        refine k_take 9 E rfl (by kernel_rfl) nP hT (y_build (ps := [(0, .tmp 21), (1, .tmp 23), (2, .tmp 25)]) (qs := [(0, [(Value.int .i64 x34)]), (1, [c101]), (2, [c97])]) (cs := [(Value.int .i64 x34), c101, c97]) zero_29 places_29 rfl ⟨rfl, rfl, rfl, ⟨rfl, (OGrid.cells h103), rfl, ⟨rfl, (ORow.cells h99), rfl, trivial⟩⟩⟩ rfl) rfl rfl fun a E => ?_
        refine k_all [11] (by kernel_rfl) rfl (one_c ?_)
        · refine wpOp_of_list (o := _) rfl ?_
          refine l_storeB E ok 2 rfl rfl rfl inf_29 rfl rfl ⟨rfl, (OGrid.one h103), (ORow.one h99), trivial⟩ rfl rfl fun w ok => ?_
          refine wpList_nil ?_
          refine t_norm ?_
          refine k_next (cl1 ⟨m100, _, le_m20, ok, ⟨memAt 3 rfl, memAt 4 rfl, trivial⟩⟩ ⟨m100, _, le_m20, ok, ⟨memAt 3 rfl, memAt 4 rfl, trivial⟩⟩) fun hT => ?_
          refine k_done (by kernel_rfl) ?_
          exact ⟨rfl, ⟨m100, b89, c101, M102, c97, M98, le_m20, (ok.pk 5 [2, 1, 0, 3, 4] rfl (by decide)), E.keep [1, 2, 3, 5], r63, h103, h99⟩⟩
  clear hJ
  intro e a w hO
  obtain ⟨rfl, m104, b112, c106, M107, c109, M110, hle, ok, E, r105, h108, h111⟩ := hO
  have le_m0 := le_m0.trans hle
  have h3 := (mL (mL (mI .i64))).up hle h3
  have h5 := (mL mB).up hle h5
  have h15 := (mL (mL (mI .i64))).up hle h15
  have h17 := (mL mB).up hle h17
  have h22 := (mL (mI .i64)).up hle h22
  refine t_norm ?_
  refine wp_seq ?_
  refine wp_seq ?_
  refine c_region ?_
  refine l_val E ok (y_fieldAddr fo_29_1 rfl) rfl rfl fun a E => ?_
  refine l_val E ok (y_load one_22 rfl (Holds.own 4 rfl rfl)) rfl rfl fun a E => ?_
  refine l_val E ok (y_lenL sl_22 h15 rfl) rfl rfl fun a E => ?_
  refine l_val E ok (y_move rfl) rfl rfl fun a E => ?_
  refine wpList_nil ?_
  refine t_norm ?_
  refine wp_block ?_
  obtain ⟨o122, hL, hF⟩ := bnd hF
  refine c_loop _ (fun (s : Int × DFA) a w => ∃ c125 M126 c128 M129, Ok u m104 ([(b112, Obj.cells [(Value.int .i64 s.2.Start), c125, c128].toArray 29 (0, 0))] :: M129 :: M126 :: [(b7, Obj.cells [(Value.int .i64 0), (Value.slice none 0 0), (Value.slice none 0 0)].toArray 29 (0, 0))] :: [(b6, Obj.cells [(Value.int .i64 r8.Start), c14, c16].toArray 29 (0, 0))] :: S) w ∧ Env 72 a [(1, (Value.pointer (some ⟨b6, 0, none⟩))), (2, (Value.pointer (some ⟨b7, 0, none⟩))), (3, c21), (5, (Value.pointer (some ⟨b112, 0, none⟩))), (28, c14), (29, (Value.int .i64 (r8.Next.length : Int))), (30, (Value.int .i64 s.1))] ∧ InR .i64 s.1 ∧ InR .i64 s.2.Start ∧ OGrid m104 c125 s.2.Next M126 ∧ ORow 4 1 pB m104 c128 s.2.Accept M129) (fun (b : DFA) e a w => e = (.exit 0) ∧ ∃ c378 M379 c381 M382, Ok u m104 ([(b112, Obj.cells [(Value.int .i64 b.Start), c378, c381].toArray 29 (0, 0))] :: M382 :: M379 :: [(b7, Obj.cells [(Value.int .i64 0), (Value.slice none 0 0), (Value.slice none 0 0)].toArray 29 (0, 0))] :: [(b6, Obj.cells [(Value.int .i64 r8.Start), c14, c16].toArray 29 (0, 0))] :: S) w ∧ Env 72 a [(2, (Value.pointer (some ⟨b7, 0, none⟩))), (5, (Value.pointer (some ⟨b112, 0, none⟩)))] ∧ InR .i64 b.Start ∧ OGrid m104 c378 b.Next M379 ∧ ORow 4 1 pB m104 c381 b.Accept M382) ?_ ?_ N _ a w hL ⟨c106, M107, c109, M110, ok, E.keep [1, 2, 3, 5, 28, 29, 30], (show InR .i64 (0) by decide), r105, h108, h111⟩
  rotate_left
  · intro e a w _ hO
    obtain ⟨rfl, c357, M358, c360, M361, ok, E, r356, h359, h362⟩ := hO
    refine b_hit ?_
    refine t_norm ?_
    refine wp_seq ?_
    refine c_region ?_
    refine l_val E ok (y_loadAgg (cs := [(Value.int .i64 o122.Start), c357, c360]) agg_29 rfl rfl (Holds.own 0 rfl rfl)) rfl rfl fun a E => ?_
    obtain ⟨m363, hle, ok, hfz⟩ := (ok.frs 2 rfl).freeze
    have h364 := OGrid.froz h359 hle hfz
    have le_m0 := le_m0.trans hle
    have h3 := (mL (mL (mI .i64))).up hle h3
    have h5 := (mL mB).up hle h5
    have h15 := (mL (mL (mI .i64))).up hle h15
    have h17 := (mL mB).up hle h17
    have h22 := (mL (mI .i64)).up hle h22
    have h362 := ORow.up mB hle h362
    obtain ⟨m365, hle, ok, hfz⟩ := (ok.frs 1 rfl).freeze
    have h366 := ORow.froz mB h362 hle hfz (by decide)
    have le_m0 := le_m0.trans hle
    have h3 := (mL (mL (mI .i64))).up hle h3
    have h5 := (mL mB).up hle h5
    have h15 := (mL (mL (mI .i64))).up hle h15
    have h17 := (mL mB).up hle h17
    have h22 := (mL (mI .i64)).up hle h22
    have h364 := (mL (mL (mI .i64))).up hle h364
    obtain ⟨r367, e368, hF⟩ := bnd hF
    refine l_call E go_48 rfl (automaton_reachable_w N _ o122 ⟨_, _, rfl, r356, h364, h366⟩ e368 ok) rfl rfl ?_
    rintro _ w ⟨m369, vs370, rfl, hle, ok, h371⟩
    have le_m0 := le_m0.trans hle
    have h3 := (mL (mL (mI .i64))).up hle h3
    have h5 := (mL mB).up hle h5
    have h15 := (mL (mL (mI .i64))).up hle h15
    have h17 := (mL mB).up hle h17
    have h22 := (mL (mI .i64)).up hle h22
    have h364 := (mL (mL (mI .i64))).up hle h364
    have h366 := (mL mB).up hle h366
    obtain ⟨c373, c375, rfl, r372, h374, h376⟩ := h371
    refine ⟨_, rfl, fun a E => ?_⟩
    refine l_storeB E ok 1 rfl rfl rfl inf_29 rfl rfl ⟨rfl, (pL_one h374), (pL_one h376), trivial⟩ rfl rfl fun w ok => ?_
    refine wpList_nil ?_
    refine t_norm ?_
    refine wp_ret ?_
    have hret : automaton_minimal_R u m0 S r367 a w := ⟨m369, [(Value.int .i64 r367.Start), c373, c375], le_m0, ok.drop.drop.drop, E.d, ⟨rv_c (cs := [(Value.int .i64 r367.Start), c373, c375]) E ok rfl agg_29 rfl (Holds.own 1 rfl rfl), trivial⟩, ⟨_, _, rfl, r372, h374, h376⟩⟩
    obtain rfl := Option.some.inj hF
    exact fin _ _ hret
  rintro ⟨x_131, x_132⟩ a w r ⟨c135, M136, c138, M139, ok, E, r133, r134, h137, h140⟩ hF
  replace hF : automaton_minimal_b1 N r8 r18 x_131 x_132 = some r := hF
  unfold automaton_minimal_b1 at hF
  refine wp_seq ?_
  refine c_region ?_
  refine l_val E ok (y_lss rfl rfl) rfl rfl fun a E => ?_
  refine wpList_nil ?_
  refine t_norm ?_
  refine wp_seq ?_
  refine c_if E rfl (fun hc141 => ?_) (fun hc141 => ?_)
  rotate_left
  · replace hF := cond_f hc141 hF
    refine wp_exit ?_
    refine t_exit ?_
    obtain rfl := Option.some.inj hF
    exact step_o (by nofun) (⟨rfl, ⟨c135, M136, c138, M139, ok, E.keep [2, 5], r134, h137, h140⟩⟩)
  replace hF := cond_t hc141 hF
  refine wp_skip ?_
  refine t_norm ?_
  refine wp_seq ?_
  refine wp_block ?_
  refine wp_seq ?_
  refine c_region ?_
  refine l_val E ok (y_move rfl) rfl rfl fun a E => ?_
  obtain ⟨x142, e143, hF⟩ := bnd hF
  obtain ⟨b144, o145, es146, hl147, rr148, at149, yy150⟩ := idxAt sl_22 h15 e143 (P := Try.prog) (X := .tmp 28) (I := .tmp 30) (kd := .i64) (ev_of E rfl) (ev_of E rfl)
  obtain ⟨c151, rfl, h152⟩ := pL_cell rr148
  refine l_val E ok (yy150 _ _) rfl rfl fun a E => ?_
  refine l_val E ok (y_load one_56 rfl (Holds.ro at149)) rfl rfl fun a E => ?_
  refine l_val E ok (y_assign rfl) rfl rfl fun a E => ?_
  refine l_val E ok (y_assign rfl) rfl rfl fun a E => ?_
  refine wpList_nil ?_
  refine t_norm ?_
  refine wp_seq ?_
  obtain ⟨o153, hJ, hF⟩ := bnd hF
  refine c_mono (Q' := fun e a w => e = .normal ∧ ∃ c155 M156 c158 M159, Ok u m104 ([(b112, Obj.cells [(Value.int .i64 o153.Start), c155, c158].toArray 29 (0, 0))] :: M159 :: M156 :: [(b7, Obj.cells [(Value.int .i64 0), (Value.slice none 0 0), (Value.slice none 0 0)].toArray 29 (0, 0))] :: [(b6, Obj.cells [(Value.int .i64 r8.Start), c14, c16].toArray 29 (0, 0))] :: S) w ∧ Env 72 a [(1, (Value.pointer (some ⟨b6, 0, none⟩))), (2, (Value.pointer (some ⟨b7, 0, none⟩))), (3, c21), (5, (Value.pointer (some ⟨b112, 0, none⟩))), (6, (Value.int .i64 x_131)), (7, c151), (28, c14), (29, (Value.int .i64 (r8.Next.length : Int))), (30, (Value.int .i64 x_131))] ∧ InR .i64 o153.Start ∧ OGrid m104 c155 o153.Next M156 ∧ ORow 4 1 pB m104 c158 o153.Accept M159) ?_ ?_
  · replace hF := hJ
    clear hJ
    obtain ⟨x161, e162, hF⟩ := bnd hF
    obtain ⟨x171, e172, hF⟩ := bnd hF
    obtain ⟨x180, e181, hF⟩ := bnd hF
    obtain ⟨l186, e187, hF⟩ := bnd hF
    obtain rfl := Option.some.inj hF
    refine k_begin [1, 5, 7, 10] (Cls u m104 ([(b112, Obj.cells [(Value.int .i64 x_132.Start), c135, c138].toArray 29 (0, 0))] :: M136 :: [(b7, Obj.cells [(Value.int .i64 0), (Value.slice none 0 0), (Value.slice none 0 0)].toArray 29 (0, 0))] :: [(b6, Obj.cells [(Value.int .i64 r8.Start), c14, c16].toArray 29 (0, 0))] :: [])) (Cls u m104 (M136 :: [(b7, Obj.cells [(Value.int .i64 0), (Value.slice none 0 0), (Value.slice none 0 0)].toArray 29 (0, 0))] :: [(b6, Obj.cells [(Value.int .i64 r8.Start), c14, c16].toArray 29 (0, 0))] :: [])) (by kernel_rfl) ?_
    intro w hw
    replace ok := okdrew ok hw
    clear hw
    have le_m104 := Mem.le.refl m104
    refine k_next (cl1 ⟨m104, _, le_m104, ok, ⟨memAt 0 rfl, memAt 2 rfl, memAt 3 rfl, memAt 4 rfl, trivial⟩⟩ ⟨m104, _, le_m104, ok, ⟨memAt 2 rfl, memAt 3 rfl, memAt 4 rfl, trivial⟩⟩) fun hT => ?_
    refine k_take 0 E rfl (by kernel_rfl) nP hT (y_fieldAddr fo_29_2 rfl) rfl rfl fun a E => ?_
    refine k_takeN 1 E rfl (by kernel_rfl) nP hT (y_load one_23 rfl (Holds.cown 0 rfl rfl)) rfl rfl fun a E => ?_
    refine k_take 2 E rfl (by kernel_rfl) nP hT (y_move rfl) rfl rfl fun a E => ?_
    refine k_take 3 E rfl (by kernel_rfl) nP hT (y_move rfl) rfl rfl fun a E => ?_
    obtain ⟨b190, o191, es192, hl193, rr194, at195, yy196⟩ := idxAt sl_56 h22 e162 (P := Try.prog) (X := .tmp 37) (I := .tmp 38) (kd := .i64) (ev_of E rfl) (ev_of E rfl)
    obtain ⟨rfl, r197⟩ := rr194
    refine k_take 4 E rfl (by kernel_rfl) nP hT (yy196 _ _) rfl rfl fun a E => ?_
    refine k_takeN 5 E rfl (by kernel_rfl) nP hT (y_load one_3 rfl (Holds.cro at195)) rfl rfl fun a E => ?_
    refine k_take 6 E rfl (by kernel_rfl) nP hT (y_fieldAddr fo_29_2 rfl) rfl rfl fun a E => ?_
    refine k_takeN 7 E rfl (by kernel_rfl) nP hT (y_load one_23 rfl (Holds.cown 3 rfl rfl)) rfl rfl fun a E => ?_
    refine k_take 8 E rfl (by kernel_rfl) nP hT (y_move rfl) rfl rfl fun a E => ?_
    obtain ⟨b198, o199, es200, hl201, rr202, at203, yy204⟩ := idxAt sl_23 h17 e172 (P := Try.prog) (X := .tmp 42) (I := .tmp 43) (kd := .i64) (ev_of E rfl) (ev_of E rfl)
    obtain rfl := rr202
    refine k_take 9 E rfl (by kernel_rfl) nP hT (yy204 _ _) rfl rfl fun a E => ?_
    refine k_takeN 10 E rfl (by kernel_rfl) nP hT (y_load one_4 rfl (Holds.cro at203)) rfl rfl fun a E => ?_
    obtain ⟨b205, o206, hp207, yy208⟩ := orowAt sl_23 h140 e181 (P := Try.prog) (X := .tmp 36) (I := .tmp 40) (kd := .i64) (ev_of E rfl) (ev_of E rfl)
    refine k_take 11 E rfl (by kernel_rfl) nP hT (yy208 _ _) rfl rfl fun a E => ?_
    refine k_all [12] (by kernel_rfl) rfl (one_c ?_)
    · refine wpOp_of_list (o := _) rfl ?_
      refine l_storeRow (R := pB) E ok 1 rfl h140 e181 hp207 rfl rfl inf_4 rfl rfl rfl ⟨rfl, trivial⟩ pB_mk e187 rfl fun M209 w ok h210 => ?_
      refine wpList_nil ?_
      refine t_norm ?_
      refine k_next (cl2 (by kernel_rfl) ⟨m104, _, le_m104, ok, ⟨memAt 2 rfl, memAt 3 rfl, memAt 4 rfl, trivial⟩⟩) fun hT => ?_
      refine k_done (by kernel_rfl) ?_
      exact ⟨rfl, ⟨c135, M136, c138, M209, ok, E.keep [1, 2, 3, 5, 6, 7, 28, 29, 30], r134, h137, h210⟩⟩
  clear hJ
  intro e a w hO
  obtain ⟨rfl, c212, M213, c215, M216, ok, E, r211, h214, h217⟩ := hO
  refine t_norm ?_
  refine wp_seq ?_
  refine c_region ?_
  refine l_val E ok (y_move rfl) rfl rfl fun a E => ?_
  refine l_val E ok (y_lenL sl_56 h152 rfl) rfl rfl fun a E => ?_
  refine l_val E ok (y_move rfl) rfl rfl fun a E => ?_
  refine wpList_nil ?_
  refine t_norm ?_
  refine wp_block ?_
  obtain ⟨o227, hL, hF⟩ := bnd hF
  refine c_loop _ (fun (s : Int × DFA) a w => ∃ c230 M231 c233 M234, Ok u m104 ([(b112, Obj.cells [(Value.int .i64 s.2.Start), c230, c233].toArray 29 (0, 0))] :: M234 :: M231 :: [(b7, Obj.cells [(Value.int .i64 0), (Value.slice none 0 0), (Value.slice none 0 0)].toArray 29 (0, 0))] :: [(b6, Obj.cells [(Value.int .i64 r8.Start), c14, c16].toArray 29 (0, 0))] :: S) w ∧ Env 72 a [(1, (Value.pointer (some ⟨b6, 0, none⟩))), (2, (Value.pointer (some ⟨b7, 0, none⟩))), (3, c21), (5, (Value.pointer (some ⟨b112, 0, none⟩))), (6, (Value.int .i64 x_131)), (28, c14), (29, (Value.int .i64 (r8.Next.length : Int))), (30, (Value.int .i64 x_131)), (47, c151), (48, (Value.int .i64 (x142.length : Int))), (49, (Value.int .i64 s.1))] ∧ InR .i64 s.1 ∧ InR .i64 s.2.Start ∧ OGrid m104 c230 s.2.Next M231 ∧ ORow 4 1 pB m104 c233 s.2.Accept M234) (fun (b : DFA) e a w => e = (.exit 2) ∧ ∃ c350 M351 c353 M354, Ok u m104 ([(b112, Obj.cells [(Value.int .i64 b.Start), c350, c353].toArray 29 (0, 0))] :: M354 :: M351 :: [(b7, Obj.cells [(Value.int .i64 0), (Value.slice none 0 0), (Value.slice none 0 0)].toArray 29 (0, 0))] :: [(b6, Obj.cells [(Value.int .i64 r8.Start), c14, c16].toArray 29 (0, 0))] :: S) w ∧ Env 72 a [(1, (Value.pointer (some ⟨b6, 0, none⟩))), (2, (Value.pointer (some ⟨b7, 0, none⟩))), (3, c21), (5, (Value.pointer (some ⟨b112, 0, none⟩))), (28, c14), (29, (Value.int .i64 (r8.Next.length : Int))), (30, (Value.int .i64 x_131))] ∧ InR .i64 b.Start ∧ OGrid m104 c350 b.Next M351 ∧ ORow 4 1 pB m104 c353 b.Accept M354) ?_ ?_ N _ a w hL ⟨c212, M213, c215, M216, ok, E.keep [1, 2, 3, 5, 6, 28, 29, 30, 47, 48, 49], (show InR .i64 (0) by decide), r211, h214, h217⟩
  rotate_left
  · intro e a w _ hO
    obtain ⟨rfl, c343, M344, c346, M347, ok, E, r342, h345, h348⟩ := hO
    refine b_hit ?_
    refine b_norm ?_
    refine t_norm ?_
    refine c_region ?_
    refine l_val E ok (y_add rfl rfl (InR.inc r133 (pL_InR h15) hc141)) rfl rfl fun a E => ?_
    refine l_val E ok (y_move rfl) rfl rfl fun a E => ?_
    refine wpList_nil ?_
    obtain rfl := Option.some.inj hF
    exact step_n ⟨c343, M344, c346, M347, ok, E.keep [1, 2, 3, 5, 28, 29, 30], (InR.inc r133 (pL_InR h15) hc141), r342, h345, h348⟩
  rintro ⟨x_236, x_237⟩ a w r ⟨c240, M241, c243, M244, ok, E, r238, r239, h242, h245⟩ hF
  replace hF : automaton_minimal_b2 N r18 x_131 x142 x_236 x_237 = some r := hF
  unfold automaton_minimal_b2 at hF
  refine wp_seq ?_
  refine c_region ?_
  refine l_val E ok (y_lss rfl rfl) rfl rfl fun a E => ?_
  refine wpList_nil ?_
  refine t_norm ?_
  refine wp_seq ?_
  refine c_if E rfl (fun hc246 => ?_) (fun hc246 => ?_)
  rotate_left
  · replace hF := cond_f hc246 hF
    refine wp_exit ?_
    refine t_exit ?_
    obtain rfl := Option.some.inj hF
    exact step_o (by nofun) (⟨rfl, ⟨c240, M241, c243, M244, ok, E.keep [1, 2, 3, 5, 28, 29, 30], r239, h242, h245⟩⟩)
  replace hF := cond_t hc246 hF
  refine wp_skip ?_
  refine t_norm ?_
  refine wp_seq ?_
  refine wp_block ?_
  refine wp_seq ?_
  refine c_region ?_
  refine l_val E ok (y_move rfl) rfl rfl fun a E => ?_
  obtain ⟨x247, e248, hF⟩ := bnd hF
  obtain ⟨b249, o250, es251, hl252, rr253, at254, yy255⟩ := idxAt sl_56 h152 e248 (P := Try.prog) (X := .tmp 47) (I := .tmp 49) (kd := .i64) (ev_of E rfl) (ev_of E rfl)
  obtain ⟨rfl, r256⟩ := rr253
  refine l_val E ok (yy255 _ _) rfl rfl fun a E => ?_
  refine l_val E ok (y_load one_3 rfl (Holds.ro at254)) rfl rfl fun a E => ?_
  refine l_val E ok (y_assign rfl) rfl rfl fun a E => ?_
  refine l_val E ok (y_assign rfl) rfl rfl fun a E => ?_
  refine wpList_nil ?_
  refine t_norm ?_
  obtain ⟨o257, hJ, hF⟩ := bnd hF
  refine c_mono (Q' := fun e a w => e = .normal ∧ ∃ c259 M260 c262 M263, Ok u m104 ([(b112, Obj.cells [(Value.int .i64 o257.Start), c259, c262].toArray 29 (0, 0))] :: M263 :: M260 :: [(b7, Obj.cells [(Value.int .i64 0), (Value.slice none 0 0), (Value.slice none 0 0)].toArray 29 (0, 0))] :: [(b6, Obj.cells [(Value.int .i64 r8.Start), c14, c16].toArray 29 (0, 0))] :: S) w ∧ Env 72 a [(1, (Value.pointer (some ⟨b6, 0, none⟩))), (2, (Value.pointer (some ⟨b7, 0, none⟩))), (3, c21), (5, (Value.pointer (some ⟨b112, 0, none⟩))), (6, (Value.int .i64 x_131)), (28, c14), (29, (Value.int .i64 (r8.Next.length : Int))), (30, (Value.int .i64 x_131)), (47, c151), (48, (Value.int .i64 (x142.length : Int))), (49, (Value.int .i64 x_236))] ∧ InR .i64 o257.Start ∧ OGrid m104 c259 o257.Next M260 ∧ ORow 4 1 pB m104 c262 o257.Accept M263) ?_ ?_
  rotate_left
  · clear hJ
    intro e a w hO
    obtain ⟨rfl, c336, M337, c339, M340, ok, E, r335, h338, h341⟩ := hO
    refine b_norm ?_
    refine t_norm ?_
    refine c_region ?_
    refine l_val E ok (y_add rfl rfl (InR.inc r238 (pL_InR h152) hc246)) rfl rfl fun a E => ?_
    refine l_val E ok (y_move rfl) rfl rfl fun a E => ?_
    refine wpList_nil ?_
    obtain rfl := Option.some.inj hF
    exact step_n ⟨c336, M337, c339, M340, ok, E.keep [1, 2, 3, 5, 6, 28, 29, 30, 47, 48, 49], (InR.inc r238 (pL_InR h152) hc246), r335, h338, h341⟩
  replace hF := hJ
  clear hJ
  obtain ⟨x265, e266, hF⟩ := bnd hF
  obtain ⟨x275, e276, hF⟩ := bnd hF
  obtain ⟨x284, e285, hF⟩ := bnd hF
  obtain ⟨x294, e295, hF⟩ := bnd hF
  obtain ⟨l300, e301, hF⟩ := bnd hF
  obtain ⟨g302, e303, hF⟩ := bnd hF
  obtain rfl := Option.some.inj hF
  refine k_begin [1, 5, 7, 12] (Cls u m104 ([(b112, Obj.cells [(Value.int .i64 x_237.Start), c240, c243].toArray 29 (0, 0))] :: M244 :: [(b7, Obj.cells [(Value.int .i64 0), (Value.slice none 0 0), (Value.slice none 0 0)].toArray 29 (0, 0))] :: [(b6, Obj.cells [(Value.int .i64 r8.Start), c14, c16].toArray 29 (0, 0))] :: [])) (Cls u m104 (M244 :: [(b7, Obj.cells [(Value.int .i64 0), (Value.slice none 0 0), (Value.slice none 0 0)].toArray 29 (0, 0))] :: [(b6, Obj.cells [(Value.int .i64 r8.Start), c14, c16].toArray 29 (0, 0))] :: [])) (by kernel_rfl) ?_
  intro w hw
  replace ok := okdrew ok hw
  clear hw
  have le_m104 := Mem.le.refl m104
  refine k_next (cl1 ⟨m104, _, le_m104, ok, ⟨memAt 0 rfl, memAt 1 rfl, memAt 3 rfl, memAt 4 rfl, trivial⟩⟩ ⟨m104, _, le_m104, ok, ⟨memAt 1 rfl, memAt 3 rfl, memAt 4 rfl, trivial⟩⟩) fun hT => ?_
  refine k_take 0 E rfl (by kernel_rfl) nP hT (y_fieldAddr fo_29_1 rfl) rfl rfl fun a E => ?_
  refine k_takeN 1 E rfl (by kernel_rfl) nP hT (y_load one_22 rfl (Holds.cown 0 rfl rfl)) rfl rfl fun a E => ?_
  refine k_take 2 E rfl (by kernel_rfl) nP hT (y_move rfl) rfl rfl fun a E => ?_
  refine k_take 3 E rfl (by kernel_rfl) nP hT (y_move rfl) rfl rfl fun a E => ?_
  obtain ⟨b306, o307, es308, hl309, rr310, at311, yy312⟩ := idxAt sl_56 h22 e266 (P := Try.prog) (X := .tmp 56) (I := .tmp 57) (kd := .i64) (ev_of E rfl) (ev_of E rfl)
  obtain ⟨rfl, r313⟩ := rr310
  refine k_take 4 E rfl (by kernel_rfl) nP hT (yy312 _ _) rfl rfl fun a E => ?_
  refine k_takeN 5 E rfl (by kernel_rfl) nP hT (y_load one_3 rfl (Holds.cro at311)) rfl rfl fun a E => ?_
  obtain ⟨b314, o315, rv316, hr317, hl318, at319, yy320⟩ := gridAt sl_22 h242 e276 (P := Try.prog) (X := .tmp 55) (I := .tmp 59) (kd := .i64) (ev_of E rfl) (ev_of E rfl)
  refine k_take 6 E rfl (by kernel_rfl) nP hT (yy320 _ _) rfl rfl fun a E => ?_
  refine k_takeN 7 E rfl (by kernel_rfl) nP hT (y_load one_56 rfl (Holds.cro at319)) rfl rfl fun a E => ?_
  refine k_take 8 E rfl (by kernel_rfl) nP hT (y_move rfl) rfl rfl fun a E => ?_
  refine k_take 9 E rfl (by kernel_rfl) nP hT (y_move rfl) rfl rfl fun a E => ?_
  refine k_take 10 E rfl (by kernel_rfl) nP hT (y_move rfl) rfl rfl fun a E => ?_
  obtain ⟨b321, o322, es323, hl324, rr325, at326, yy327⟩ := idxAt sl_56 h22 e285 (P := Try.prog) (X := .tmp 63) (I := .tmp 64) (kd := .i64) (ev_of E rfl) (ev_of E rfl)
  obtain ⟨rfl, r328⟩ := rr325
  refine k_take 11 E rfl (by kernel_rfl) nP hT (yy327 _ _) rfl rfl fun a E => ?_
  refine k_takeN 12 E rfl (by kernel_rfl) nP hT (y_load one_3 rfl (Holds.cro at326)) rfl rfl fun a E => ?_
  obtain ⟨b329, o330, hp331, yy332⟩ := growAt sl_56 hr317 hl318 e295 (P := Try.prog) (X := .tmp 61) (I := .tmp 62) (kd := .i64) (ev_of E rfl) (ev_of E rfl)
  refine k_take 13 E rfl (by kernel_rfl) nP hT (yy332 _ _) rfl rfl fun a E => ?_
  refine k_all [14] (by kernel_rfl) rfl (one_c ?_)
  · refine wpOp_of_list (o := _) rfl ?_
    refine l_storeG E ok 2 rfl h242 e276 e295 hp331 rfl rfl r328 inf_3 e301 e303 rfl fun M333 w ok h334 => ?_
    refine wpList_nil ?_
    refine t_norm ?_
    refine k_next (cl2 (by kernel_rfl) ⟨m104, _, le_m104, ok, ⟨memAt 1 rfl, memAt 3 rfl, memAt 4 rfl, trivial⟩⟩) fun hT => ?_
    refine k_done (by kernel_rfl) ?_
    exact ⟨rfl, ⟨c240, M333, c243, M244, ok, E.keep [1, 2, 3, 5, 6, 28, 29, 30, 47, 48, 49], r239, h334, h245⟩⟩

def automaton_Minimal_R (u : World) (m0 : Mem) (S : Segs) (r : DFA × Int) (a : Act) (w : World) : Prop :=
  ∃ m1 v0, m0.le m1 ∧ Ok u m1 S w ∧ a.defers = [] ∧ RVs Try.prog a w [.c 2 29 (.agg v0.toArray), .t 3 (.int .i64 r.2)] ∧ pDFA m1 v0 r.1 ∧ InR .i64 r.2
set_option maxHeartbeats 4000000 in
set_option maxRecDepth 100000 in
theorem automaton_Minimal_w {u : World} {m0 : Mem} {S : Segs} {w : World} (N : Nat) (vd_0 : List Value) (d_0 : DFA) (hd_0 : pDFA m0 vd_0 d_0) {r : DFA × Int} (hF : automaton_Minimal N d_0 = some r) (ok : Ok u m0 S w) :
    Calls Try.prog 21 [.agg vd_0.toArray].toArray w fun e w' => ∃ m1 v0, e = .returned (.tuple [(.agg v0.toArray), (.int .i64 r.2)].toArray) ∧ m0.le m1 ∧ Ok u m1 S w' ∧ pDFA m1 v0 r.1 ∧ InR .i64 r.2 := by
  obtain ⟨c2, c4, rfl, r1, h3, h5⟩ := hd_0
  have le_m0 := Mem.le.refl m0
  unfold automaton_Minimal at hF
  have fin : ∀ a w, automaton_Minimal_R u m0 S r a w → bodyPost Try.prog Try.f21 (fun e w' => ∃ m1 v0, e = .returned (.tuple [(.agg v0.toArray), (.int .i64 r.2)].toArray) ∧ m0.le m1 ∧ Ok u m1 S w' ∧ pDFA m1 v0 r.1 ∧ InR .i64 r.2) .ret a w := by
    intro a w h
    obtain ⟨m1, v0, hle, ok, hd, hrv, h0, h1⟩ := h
    exact c_ret2 [.c 2 29 (.agg v0.toArray), .t 3 (.int .i64 r.2)] hd rfl hrv ⟨m1, v0, rfl, hle, ok, h0, h1⟩
  refine enter Try.func21 rfl rfl rfl fun a E => ?_
  refine wp_seq ?_
  refine c_region ?_
  refine l_box E ok rfl rfl rfl fun b6 a w E ok => ?_
  refine l_alloc E ok zero_29 rfl rfl fun b7 a w E ok => ?_
  refine l_val E ok (y_assign rfl) rfl rfl fun a E => ?_
  refine wpList_nil ?_
  refine t_norm ?_
  refine wp_seq ?_
  refine wp_seq ?_
  refine c_region ?_
  refine l_val E ok (y_loadAgg (cs := [(Value.int .i64 d_0.Start), c2, c4]) agg_29 rfl rfl (Holds.own 1 rfl rfl)) rfl rfl fun a E => ?_
  obtain ⟨r8, e9, hF⟩ := bnd hF
  refine l_call E go_13 rfl (automaton_Valid_w N _ d_0 ⟨_, _, rfl, r1, h3, h5⟩ e9 ok) rfl rfl ?_
  rintro _ w ⟨rfl, ok⟩
  refine ⟨_, rfl, fun a E => ?_⟩
  refine l_val E ok (y_not rfl) rfl rfl fun a E => ?_
  refine wpList_nil ?_
  refine t_norm ?_
  refine c_if E rfl (fun hc10 => ?_) (fun hc10 => ?_)
  · replace hF := cond_t hc10 hF
    refine wp_seq ?_
    refine c_region ?_
    refine l_val E ok (y_build (ps := []) (qs := []) (cs := [(Value.int .i64 0), (Value.slice none 0 0), (Value.slice none 0 0)]) zero_29 places_29 rfl trivial rfl) rfl rfl fun a E => ?_
    refine l_storeB E ok 0 rfl rfl rfl inf_29 rfl rfl ⟨rfl, rfl, rfl, trivial⟩ rfl rfl fun w ok => ?_
    refine l_val E ok (y_assign rfl) rfl rfl fun a E => ?_
    refine wpList_nil ?_
    refine t_norm ?_
    refine wp_ret ?_
    refine t_ret ?_
    have hret : automaton_Minimal_R u m0 S ((DFA.mk 0 ([]) ([])), 1) a w := ⟨m0, [(Value.int .i64 0), (Value.slice none 0 0), (Value.slice none 0 0)], le_m0, ok.drop.drop, E.d, ⟨rv_c (cs := [(Value.int .i64 0), (Value.slice none 0 0), (Value.slice none 0 0)]) E ok rfl agg_29 rfl (Holds.own 0 rfl rfl), rv_t E rfl, trivial⟩, ⟨_, _, rfl, (show InR .i64 0 by decide), pL_nil, pL_nil⟩, (show InR .i64 (1) by decide)⟩
    obtain rfl := Option.some.inj hF
    exact fin _ _ hret
  replace hF := cond_f hc10 hF
  refine wp_skip ?_
  refine t_norm ?_
  refine wp_seq ?_
  refine c_region ?_
  refine l_val E ok (y_loadAgg (cs := [(Value.int .i64 d_0.Start), c2, c4]) agg_29 rfl rfl (Holds.own 1 rfl rfl)) rfl rfl fun a E => ?_
  obtain ⟨r11, e12, hF⟩ := bnd hF
  refine l_call E go_41 rfl (automaton_minimal_w N _ d_0 ⟨_, _, rfl, r1, h3, h5⟩ e12 ok) rfl rfl ?_
  rintro _ w ⟨m13, vs14, rfl, hle, ok, h15⟩
  have le_m0 := le_m0.trans hle
  have h3 := (mL (mL (mI .i64))).up hle h3
  have h5 := (mL mB).up hle h5
  obtain ⟨c17, c19, rfl, r16, h18, h20⟩ := h15
  refine ⟨_, rfl, fun a E => ?_⟩
  refine l_storeB E ok 0 rfl rfl rfl inf_29 rfl rfl ⟨rfl, (pL_one h18), (pL_one h20), trivial⟩ rfl rfl fun w ok => ?_
  refine l_val E ok (y_assign rfl) rfl rfl fun a E => ?_
  refine wpList_nil ?_
  refine t_norm ?_
  refine wp_ret ?_
  have hret : automaton_Minimal_R u m0 S (r11, 0) a w := ⟨m13, [(Value.int .i64 r11.Start), c17, c19], le_m0, ok.drop.drop, E.d, ⟨rv_c (cs := [(Value.int .i64 r11.Start), c17, c19]) E ok rfl agg_29 rfl (Holds.own 0 rfl rfl), rv_t E rfl, trivial⟩, ⟨_, _, rfl, r16, h18, h20⟩, (show InR .i64 (0) by decide)⟩
  obtain rfl := Option.some.inj hF
  exact fin _ _ hret

def automaton_equal_R (u : World) (m0 : Mem) (S : Segs) (r : Bool) (a : Act) (w : World) : Prop :=
  Ok u m0 S w ∧ a.defers = [] ∧ RVs Try.prog a w [.t 4 (.bool r)]
set_option maxHeartbeats 4000000 in
set_option maxRecDepth 100000 in
theorem automaton_equal_w {u : World} {m0 : Mem} {S : Segs} {w : World} (N : Nat) (va_0 : List Value) (a_0 : DFA) (ha_0 : pDFA m0 va_0 a_0) (vb_1 : List Value) (b_1 : DFA) (hb_1 : pDFA m0 vb_1 b_1) {r : Bool} (hF : automaton_equal N a_0 b_1 = some r) (ok : Ok u m0 S w) :
    Calls Try.prog 43 [.agg va_0.toArray, .agg vb_1.toArray].toArray w fun e w' => (e = .returned (.bool r) ∧ Ok u m0 S w') := by
  obtain ⟨c2, c4, rfl, r1, h3, h5⟩ := ha_0
  obtain ⟨c7, c9, rfl, r6, h8, h10⟩ := hb_1
  have le_m0 := Mem.le.refl m0
  unfold automaton_equal at hF
  have fin : ∀ a w, automaton_equal_R u m0 S r a w → bodyPost Try.prog Try.f43 (fun e w' => (e = .returned (.bool r) ∧ Ok u m0 S w')) .ret a w := by
    intro a w h
    obtain ⟨ok, hd, hrv⟩ := h
    exact c_ret2 [.t 4 (.bool r)] hd rfl hrv ⟨rfl, ok⟩
  refine enter Try.func43 rfl rfl rfl fun a E => ?_
  refine wp_seq ?_
  refine c_region ?_
  refine l_box E ok rfl rfl rfl fun b11 a w E ok => ?_
  refine l_box E ok rfl rfl rfl fun b12 a w E ok => ?_
  refine l_val E ok (y_assign rfl) rfl rfl fun a E => ?_
  refine wpList_nil ?_
  refine t_norm ?_
  refine wp_seq ?_
  refine wp_seq ?_
  refine c_region ?_
  refine l_val E ok (y_fieldAddr fo_29_0 rfl) rfl rfl fun a E => ?_
  refine l_val E ok (y_load one_3 rfl (Holds.own 1 rfl rfl)) rfl rfl fun a E => ?_
  refine l_val E ok (y_fieldAddr fo_29_0 rfl) rfl rfl fun a E => ?_
  refine l_val E ok (y_load one_3 rfl (Holds.own 0 rfl rfl)) rfl rfl fun a E => ?_
  refine l_val E ok (y_neq rfl rfl) rfl rfl fun a E => ?_
  refine l_val E ok (y_move rfl) rfl rfl fun a E => ?_
  refine bsplit (a_0.Start != b_1.Start) (fun hc13 => ?_) (fun hc13 => ?_)
  · replace hF := cond_t hc13 hF
    replace E := E.upd 13 hc13 rfl
    refine l_skip E rfl rfl fun a E => ?_
    refine l_skip E rfl rfl fun a E => ?_
    refine l_skip E rfl rfl fun a E => ?_
    refine l_skip E rfl rfl fun a E => ?_
    refine l_skip E rfl rfl fun a E => ?_
    refine l_skip E rfl rfl fun a E => ?_
    refine l_skip E rfl rfl fun a E => ?_
    refine l_val E ok (y_pickT rfl rfl) rfl rfl fun a E => ?_
    refine wpList_nil ?_
    refine t_norm ?_
    refine c_if E rfl (fun _ => ?_) (fun h => by cases h)
    refine wp_seq ?_
    refine c_region ?_
    refine l_val E ok (y_assign rfl) rfl rfl fun a E => ?_
    refine wpList_nil ?_
    refine t_norm ?_
    refine wp_ret ?_
    refine t_ret ?_
    have hret : automaton_equal_R u m0 S false a w := ⟨ok.drop.drop, E.d, ⟨rv_t E rfl, trivial⟩⟩
    obtain rfl := Option.some.inj hF
    exact fin _ _ hret
  replace hF := cond_f hc13 hF
  replace E := E.upd 13 hc13 rfl
  refine l_val E ok (y_fieldAddr fo_29_1 rfl) rfl rfl fun a E => ?_
  refine l_val E ok (y_load one_22 rfl (Holds.own 1 rfl rfl)) rfl rfl fun a E => ?_
  refine l_val E ok (y_lenL sl_22 h3 rfl) rfl rfl fun a E => ?_
  refine l_val E ok (y_fieldAddr fo_29_1 rfl) rfl rfl fun a E => ?_
  refine l_val E ok (y_load one_22 rfl (Holds.own 0 rfl rfl)) rfl rfl fun a E => ?_
  refine l_val E ok (y_lenL sl_22 h8 rfl) rfl rfl fun a E => ?_
  refine l_val E ok (y_neq rfl rfl) rfl rfl fun a E => ?_
  refine l_val E ok (y_pickF rfl rfl) rfl rfl fun a E => ?_
  refine wpList_nil ?_
  refine t_norm ?_
  refine c_if E rfl (fun hc14 => ?_) (fun hc14 => ?_)
  · replace hF := cond_t hc14 hF
    refine wp_seq ?_
    refine c_region ?_
    refine l_val E ok (y_assign rfl) rfl rfl fun a E => ?_
    refine wpList_nil ?_
    refine t_norm ?_
    refine wp_ret ?_
    refine t_ret ?_
    have hret : automaton_equal_R u m0 S false a w := ⟨ok.drop.drop, E.d, ⟨rv_t E rfl, trivial⟩⟩
    obtain rfl := Option.some.inj hF
    exact fin _ _ hret
  replace hF := cond_f hc14 hF
  refine wp_skip ?_
  refine t_norm ?_
  refine wp_seq ?_
  refine wp_seq ?_
  refine c_region ?_
  refine l_val E ok (y_fieldAddr fo_29_1 rfl) rfl rfl fun a E => ?_
  refine l_val E ok (y_load one_22 rfl (Holds.own 1 rfl rfl)) rfl rfl fun a E => ?_
  refine l_val E ok (y_lenL sl_22 h3 rfl) rfl rfl fun a E => ?_
  refine l_val E ok (y_move rfl) rfl rfl fun a E => ?_
  refine wpList_nil ?_
  refine t_norm ?_
  refine wp_block ?_
  obtain ⟨o16, hL, hF⟩ := bnd hF
  refine c_loop _ (fun (s : Int) a w => Ok u m0 ([(b12, Obj.cells [(Value.int .i64 b_1.Start), c7, c9].toArray 29 (0, 0))] :: [(b11, Obj.cells [(Value.int .i64 a_0.Start), c2, c4].toArray 29 (0, 0))] :: S) w ∧ Env 61 a [(2, (Value.pointer (some ⟨b11, 0, none⟩))), (3, (Value.pointer (some ⟨b12, 0, none⟩))), (23, c2), (24, (Value.int .i64 (a_0.Next.length : Int))), (25, (Value.int .i64 s))] ∧ InR .i64 s) (fun (b : (Unit ⊕ Bool)) e a w => (Sum.elim (fun b91 => e = (.exit 0) ∧ Ok u m0 ([(b12, Obj.cells [(Value.int .i64 b_1.Start), c7, c9].toArray 29 (0, 0))] :: [(b11, Obj.cells [(Value.int .i64 a_0.Start), c2, c4].toArray 29 (0, 0))] :: S) w ∧ Env 61 a []) (fun b92 => e = .ret ∧ automaton_equal_R u m0 S b92 a w)) b) ?_ ?_ N _ a w hL ⟨ok, E.keep [2, 3, 23, 24, 25], (show InR .i64 (0) by decide)⟩
  rotate_left
  · intro e a w _ hO
    rcases o16 with o16 | o16
    rotate_left
    · replace hF := elim_r hF
      obtain ⟨rfl, hret⟩ := hO
      refine b_ret ?_
      refine t_ret ?_
      obtain rfl := Option.some.inj hF
      exact fin _ _ hret
    replace hF := elim_l hF
    obtain ⟨rfl, ok, E⟩ := hO
    refine b_hit ?_
    refine t_norm ?_
    refine wp_seq ?_
    refine c_region ?_
    refine l_val E ok (y_assign rfl) rfl rfl fun a E => ?_
    refine wpList_nil ?_
    refine t_norm ?_
    refine wp_ret ?_
    have hret : automaton_equal_R u m0 S true a w := ⟨ok.drop.drop, E.d, ⟨rv_t E rfl, trivial⟩⟩
    obtain rfl := Option.some.inj hF
    exact fin _ _ hret
  rintro x_18 a w r ⟨ok, E, r19⟩ hF
  replace hF : automaton_equal_b1 N a_0 b_1 x_18 = some r := hF
  unfold automaton_equal_b1 at hF
  refine wp_seq ?_
  refine c_region ?_
  refine l_val E ok (y_lss rfl rfl) rfl rfl fun a E => ?_
  refine wpList_nil ?_
  refine t_norm ?_
  refine wp_seq ?_
  refine c_if E rfl (fun hc20 => ?_) (fun hc20 => ?_)
  rotate_left
  · replace hF := cond_f hc20 hF
    refine wp_exit ?_
    refine t_exit ?_
    obtain rfl := Option.some.inj hF
    exact step_o (by nofun) (sl ⟨rfl, ⟨ok, E.keep []⟩⟩)
  replace hF := cond_t hc20 hF
  refine wp_skip ?_
  refine t_norm ?_
  refine wp_seq ?_
  refine wp_block ?_
  refine wp_seq ?_
  refine c_region ?_
  refine l_val E ok (y_move rfl) rfl rfl fun a E => ?_
  obtain ⟨x21, e22, hF⟩ := bnd hF
  obtain ⟨b23, o24, es25, hl26, rr27, at28, yy29⟩ := idxAt sl_22 h3 e22 (P := Try.prog) (X := .tmp 23) (I := .tmp 25) (kd := .i64) (ev_of E rfl) (ev_of E rfl)
  obtain ⟨c30, rfl, h31⟩ := pL_cell rr27
  refine l_val E ok (yy29 _ _) rfl rfl fun a E => ?_
  refine l_val E ok (y_load one_56 rfl (Holds.ro at28)) rfl rfl fun a E => ?_
  refine l_val E ok (y_assign rfl) rfl rfl fun a E => ?_
  refine l_val E ok (y_assign rfl) rfl rfl fun a E => ?_
  refine wpList_nil ?_
  refine t_norm ?_
  refine wp_seq ?_
  refine wp_seq ?_
  refine c_draw (by kernel_rfl) (by kernel_rfl) ok ?_
  refine q_val E (y_fieldAddr fo_29_2 rfl) rfl rfl fun a E => ?_
  refine q_val E (y_load one_23 rfl (Holds.own 1 rfl rfl)) rfl rfl fun a E => ?_
  refine q_val E (y_move rfl) rfl rfl fun a E => ?_
  obtain ⟨x32, e33, hF⟩ := bnd hF
  obtain ⟨b34, o35, es36, hl37, rr38, at39, yy40⟩ := idxAt sl_23 h5 e33 (P := Try.prog) (X := .tmp 31) (I := .tmp 32) (kd := .i64) (ev_of E rfl) (ev_of E rfl)
  obtain rfl := rr38
  refine q_val E (yy40 _ _) rfl rfl fun a E => ?_
  refine q_val E (y_load one_4 rfl (Holds.ro at39)) rfl rfl fun a E => ?_
  refine q_val E (y_fieldAddr fo_29_2 rfl) rfl rfl fun a E => ?_
  refine q_val E (y_load one_23 rfl (Holds.own 0 rfl rfl)) rfl rfl fun a E => ?_
  refine q_val E (y_move rfl) rfl rfl fun a E => ?_
  obtain ⟨x41, e42, hF⟩ := bnd hF
  obtain ⟨b43, o44, es45, hl46, rr47, at48, yy49⟩ := idxAt sl_23 h10 e42 (P := Try.prog) (X := .tmp 36) (I := .tmp 37) (kd := .i64) (ev_of E rfl) (ev_of E rfl)
  obtain rfl := rr47
  refine q_val E (yy49 _ _) rfl rfl fun a E => ?_
  refine q_val E (y_load one_4 rfl (Holds.ro at48)) rfl rfl fun a E => ?_
  refine q_val E (y_bneq Try.underlying4 rfl rfl) rfl rfl fun a E => ?_
  refine wpQuiet_nil ?_
  intro w ok
  refine t_norm ?_
  refine c_if E rfl (fun hc50 => ?_) (fun hc50 => ?_)
  · replace hF := cond_t hc50 hF
    refine wp_seq ?_
    refine c_region ?_
    refine l_val E ok (y_assign rfl) rfl rfl fun a E => ?_
    refine wpList_nil ?_
    refine t_norm ?_
    refine wp_ret ?_
    refine t_ret ?_
    refine b_ret ?_
    refine t_ret ?_
    have hret : automaton_equal_R u m0 S false a w := ⟨ok.drop.drop, E.d, ⟨rv_t E rfl, trivial⟩⟩
    obtain rfl := Option.some.inj hF
    exact step_o (by nofun) (sr ⟨rfl, hret⟩)
  replace hF := cond_f hc50 hF
  refine wp_skip ?_
  refine t_norm ?_
  refine wp_seq ?_
  refine c_region ?_
  refine l_val E ok (y_move rfl) rfl rfl fun a E => ?_
  refine l_val E ok (y_lenL sl_56 h31 rfl) rfl rfl fun a E => ?_
  refine l_val E ok (y_move rfl) rfl rfl fun a E => ?_
  refine wpList_nil ?_
  refine t_norm ?_
  refine wp_block ?_
  obtain ⟨o52, hL, hF⟩ := bnd hF
  refine c_loop _ (fun (s : Int) a w => Ok u m0 ([(b12, Obj.cells [(Value.int .i64 b_1.Start), c7, c9].toArray 29 (0, 0))] :: [(b11, Obj.cells [(Value.int .i64 a_0.Start), c2, c4].toArray 29 (0, 0))] :: S) w ∧ Env 61 a [(2, (Value.pointer (some ⟨b11, 0, none⟩))), (3, (Value.pointer (some ⟨b12, 0, none⟩))), (5, (Value.int .i64 x_18)), (6, c30), (23, c2), (24, (Value.int .i64 (a_0.Next.length : Int))), (25, (Value.int .i64 x_18)), (42, (Value.int .i64 (x21.length : Int))), (43, (Value.int .i64 s))] ∧ InR .i64 s) (fun (b : (Unit ⊕ Bool)) e a w => (Sum.elim (fun b89 => e = (.exit 2) ∧ Ok u m0 ([(b12, Obj.cells [(Value.int .i64 b_1.Start), c7, c9].toArray 29 (0, 0))] :: [(b11, Obj.cells [(Value.int .i64 a_0.Start), c2, c4].toArray 29 (0, 0))] :: S) w ∧ Env 61 a [(2, (Value.pointer (some ⟨b11, 0, none⟩))), (3, (Value.pointer (some ⟨b12, 0, none⟩))), (23, c2), (24, (Value.int .i64 (a_0.Next.length : Int))), (25, (Value.int .i64 x_18))]) (fun b90 => e = .ret ∧ automaton_equal_R u m0 S b90 a w)) b) ?_ ?_ N _ a w hL ⟨ok, E.keep [2, 3, 5, 6, 23, 24, 25, 42, 43], (show InR .i64 (0) by decide)⟩
  rotate_left
  · intro e a w _ hO
    rcases o52 with o52 | o52
    rotate_left
    · replace hF := elim_r hF
      obtain ⟨rfl, hret⟩ := hO
      refine b_ret ?_
      refine b_ret ?_
      refine t_ret ?_
      obtain rfl := Option.some.inj hF
      exact step_o (by nofun) (sr ⟨rfl, hret⟩)
    replace hF := elim_l hF
    obtain ⟨rfl, ok, E⟩ := hO
    refine b_hit ?_
    refine b_norm ?_
    refine t_norm ?_
    refine c_region ?_
    refine l_val E ok (y_add rfl rfl (InR.inc r19 (pL_InR h3) hc20)) rfl rfl fun a E => ?_
    refine l_val E ok (y_move rfl) rfl rfl fun a E => ?_
    refine wpList_nil ?_
    obtain rfl := Option.some.inj hF
    exact step_n ⟨ok, E.keep [2, 3, 23, 24, 25], (InR.inc r19 (pL_InR h3) hc20)⟩
  rintro x_54 a w r ⟨ok, E, r55⟩ hF
  replace hF : automaton_equal_b2 N b_1 x_18 x21 x_54 = some r := hF
  unfold automaton_equal_b2 at hF
  refine wp_seq ?_
  refine c_region ?_
  refine l_val E ok (y_lss rfl rfl) rfl rfl fun a E => ?_
  refine wpList_nil ?_
  refine t_norm ?_
  refine wp_seq ?_
  refine c_if E rfl (fun hc56 => ?_) (fun hc56 => ?_)
  rotate_left
  · replace hF := cond_f hc56 hF
    refine wp_exit ?_
    refine t_exit ?_
    obtain rfl := Option.some.inj hF
    exact step_o (by nofun) (sl ⟨rfl, ⟨ok, E.keep [2, 3, 23, 24, 25]⟩⟩)
  replace hF := cond_t hc56 hF
  refine wp_skip ?_
  refine t_norm ?_
  refine wp_seq ?_
  refine wp_block ?_
  refine wp_seq ?_
  refine c_region ?_
  refine l_val E ok (y_move rfl) rfl rfl fun a E => ?_
  refine l_val E ok (y_assign rfl) rfl rfl fun a E => ?_
  refine wpList_nil ?_
  refine t_norm ?_
  refine wp_seq ?_
  refine c_draw (by kernel_rfl) (by kernel_rfl) ok ?_
  refine q_val E (y_move rfl) rfl rfl fun a E => ?_
  refine q_val E (y_move rfl) rfl rfl fun a E => ?_
  obtain ⟨x57, e58, hF⟩ := bnd hF
  obtain ⟨b59, o60, es61, hl62, rr63, at64, yy65⟩ := idxAt sl_56 h31 e58 (P := Try.prog) (X := .tmp 46) (I := .tmp 47) (kd := .i64) (ev_of E rfl) (ev_of E rfl)
  obtain ⟨rfl, r66⟩ := rr63
  refine q_val E (yy65 _ _) rfl rfl fun a E => ?_
  refine q_val E (y_load one_3 rfl (Holds.ro at64)) rfl rfl fun a E => ?_
  refine q_val E (y_fieldAddr fo_29_1 rfl) rfl rfl fun a E => ?_
  refine q_val E (y_load one_22 rfl (Holds.own 0 rfl rfl)) rfl rfl fun a E => ?_
  refine q_val E (y_move rfl) rfl rfl fun a E => ?_
  obtain ⟨x67, e68, hF⟩ := bnd hF
  obtain ⟨b69, o70, es71, hl72, rr73, at74, yy75⟩ := idxAt sl_22 h8 e68 (P := Try.prog) (X := .tmp 51) (I := .tmp 52) (kd := .i64) (ev_of E rfl) (ev_of E rfl)
  obtain ⟨c76, rfl, h77⟩ := pL_cell rr73
  refine q_val E (yy75 _ _) rfl rfl fun a E => ?_
  refine q_val E (y_load one_56 rfl (Holds.ro at74)) rfl rfl fun a E => ?_
  refine q_val E (y_move rfl) rfl rfl fun a E => ?_
  obtain ⟨x78, e79, hF⟩ := bnd hF
  obtain ⟨b80, o81, es82, hl83, rr84, at85, yy86⟩ := idxAt sl_56 h77 e79 (P := Try.prog) (X := .tmp 54) (I := .tmp 55) (kd := .i64) (ev_of E rfl) (ev_of E rfl)
  obtain ⟨rfl, r87⟩ := rr84
  refine q_val E (yy86 _ _) rfl rfl fun a E => ?_
  refine q_val E (y_load one_3 rfl (Holds.ro at85)) rfl rfl fun a E => ?_
  refine q_val E (y_neq rfl rfl) rfl rfl fun a E => ?_
  refine wpQuiet_nil ?_
  intro w ok
  refine t_norm ?_
  refine c_if E rfl (fun hc88 => ?_) (fun hc88 => ?_)
  rotate_left
  · replace hF := cond_f hc88 hF
    refine wp_skip ?_
    refine b_norm ?_
    refine t_norm ?_
    refine c_region ?_
    refine l_val E ok (y_add rfl rfl (InR.inc r55 (pL_InR h31) hc56)) rfl rfl fun a E => ?_
    refine l_val E ok (y_move rfl) rfl rfl fun a E => ?_
    refine wpList_nil ?_
    obtain rfl := Option.some.inj hF
    exact step_n ⟨ok, E.keep [2, 3, 5, 6, 23, 24, 25, 42, 43], (InR.inc r55 (pL_InR h31) hc56)⟩
  replace hF := cond_t hc88 hF
  refine wp_seq ?_
  refine c_region ?_
  refine l_val E ok (y_assign rfl) rfl rfl fun a E => ?_
  refine wpList_nil ?_
  refine t_norm ?_
  refine wp_ret ?_
  refine b_ret ?_
  refine t_ret ?_
  have hret : automaton_equal_R u m0 S false a w := ⟨ok.drop.drop, E.d, ⟨rv_t E rfl, trivial⟩⟩
  obtain rfl := Option.some.inj hF
  exact step_o (by nofun) (sr ⟨rfl, hret⟩)

def automaton_Same_R (u : World) (m0 : Mem) (S : Segs) (r : Bool × Int) (a : Act) (w : World) : Prop :=
  Ok u m0 S w ∧ a.defers = [] ∧ RVs Try.prog a w [.t 4 (.bool r.1), .t 5 (.int .i64 r.2)] ∧ InR .i64 r.2
set_option maxHeartbeats 4000000 in
set_option maxRecDepth 100000 in
theorem automaton_Same_w {u : World} {m0 : Mem} {S : Segs} {w : World} (N : Nat) (va_0 : List Value) (a_0 : DFA) (ha_0 : pDFA m0 va_0 a_0) (vb_1 : List Value) (b_1 : DFA) (hb_1 : pDFA m0 vb_1 b_1) {r : Bool × Int} (hF : automaton_Same N a_0 b_1 = some r) (ok : Ok u m0 S w) :
    Calls Try.prog 28 [.agg va_0.toArray, .agg vb_1.toArray].toArray w fun e w' => (e = .returned (.tuple [(.bool r.1), (.int .i64 r.2)].toArray) ∧ Ok u m0 S w') ∧ InR .i64 r.2 := by
  obtain ⟨c2, c4, rfl, r1, h3, h5⟩ := ha_0
  obtain ⟨c7, c9, rfl, r6, h8, h10⟩ := hb_1
  have le_m0 := Mem.le.refl m0
  unfold automaton_Same at hF
  have fin : ∀ a w, automaton_Same_R u m0 S r a w → bodyPost Try.prog Try.f28 (fun e w' => (e = .returned (.tuple [(.bool r.1), (.int .i64 r.2)].toArray) ∧ Ok u m0 S w') ∧ InR .i64 r.2) .ret a w := by
    intro a w h
    obtain ⟨ok, hd, hrv, h0⟩ := h
    exact c_ret2 [.t 4 (.bool r.1), .t 5 (.int .i64 r.2)] hd rfl hrv ⟨⟨rfl, ok⟩, h0⟩
  refine enter Try.func28 rfl rfl rfl fun a E => ?_
  refine wp_seq ?_
  refine c_region ?_
  refine l_box E ok rfl rfl rfl fun b11 a w E ok => ?_
  refine l_box E ok rfl rfl rfl fun b12 a w E ok => ?_
  refine l_val E ok (y_assign rfl) rfl rfl fun a E => ?_
  refine l_val E ok (y_assign rfl) rfl rfl fun a E => ?_
  refine wpList_nil ?_
  refine t_norm ?_
  refine wp_seq ?_
  refine wp_seq ?_
  refine c_region ?_
  refine l_val E ok (y_loadAgg (cs := [(Value.int .i64 a_0.Start), c2, c4]) agg_29 rfl rfl (Holds.own 1 rfl rfl)) rfl rfl fun a E => ?_
  obtain ⟨r13, e14, hF⟩ := bnd hF
  refine l_call E go_13 rfl (automaton_Valid_w N _ a_0 ⟨_, _, rfl, r1, h3, h5⟩ e14 ok) rfl rfl ?_
  rintro _ w ⟨rfl, ok⟩
  refine ⟨_, rfl, fun a E => ?_⟩
  refine l_val E ok (y_not rfl) rfl rfl fun a E => ?_
  refine l_val E ok (y_move rfl) rfl rfl fun a E => ?_
  refine bsplit (!r13) (fun hc15 => ?_) (fun hc15 => ?_)
  · replace hF := cond_t hc15 hF
    replace E := E.upd 9 hc15 rfl
    refine l_skip E rfl rfl fun a E => ?_
    refine l_skip E rfl rfl fun a E => ?_
    refine l_skip E rfl rfl fun a E => ?_
    refine l_val E ok (y_pickT rfl rfl) rfl rfl fun a E => ?_
    refine wpList_nil ?_
    refine t_norm ?_
    refine c_if E rfl (fun _ => ?_) (fun h => by cases h)
    refine wp_seq ?_
    refine c_region ?_
    refine l_val E ok (y_assign rfl) rfl rfl fun a E => ?_
    refine l_val E ok (y_assign rfl) rfl rfl fun a E => ?_
    refine wpList_nil ?_
    refine t_norm ?_
    refine wp_ret ?_
    refine t_ret ?_
    have hret : automaton_Same_R u m0 S (false, 1) a w := ⟨ok.drop.drop, E.d, ⟨rv_t E rfl, rv_t E rfl, trivial⟩, (show InR .i64 (1) by decide)⟩
    obtain rfl := Option.some.inj hF
    exact fin _ _ hret
  replace hF := cond_f hc15 hF
  replace E := E.upd 9 hc15 rfl
  refine l_val E ok (y_loadAgg (cs := [(Value.int .i64 b_1.Start), c7, c9]) agg_29 rfl rfl (Holds.own 0 rfl rfl)) rfl rfl fun a E => ?_
  obtain ⟨r16, e17, hF⟩ := bnd hF
  refine l_call E go_13 rfl (automaton_Valid_w N _ b_1 ⟨_, _, rfl, r6, h8, h10⟩ e17 ok) rfl rfl ?_
  rintro _ w ⟨rfl, ok⟩
  refine ⟨_, rfl, fun a E => ?_⟩
  refine l_val E ok (y_not rfl) rfl rfl fun a E => ?_
  refine l_val E ok (y_pickF rfl rfl) rfl rfl fun a E => ?_
  refine wpList_nil ?_
  refine t_norm ?_
  refine c_if E rfl (fun hc18 => ?_) (fun hc18 => ?_)
  · replace hF := cond_t hc18 hF
    refine wp_seq ?_
    refine c_region ?_
    refine l_val E ok (y_assign rfl) rfl rfl fun a E => ?_
    refine l_val E ok (y_assign rfl) rfl rfl fun a E => ?_
    refine wpList_nil ?_
    refine t_norm ?_
    refine wp_ret ?_
    refine t_ret ?_
    have hret : automaton_Same_R u m0 S (false, 1) a w := ⟨ok.drop.drop, E.d, ⟨rv_t E rfl, rv_t E rfl, trivial⟩, (show InR .i64 (1) by decide)⟩
    obtain rfl := Option.some.inj hF
    exact fin _ _ hret
  replace hF := cond_f hc18 hF
  refine wp_skip ?_
  refine t_norm ?_
  refine wp_seq ?_
  obtain ⟨o19, hJ, hF⟩ := bnd hF
  refine c_mono (Q' := fun e a w => e = .normal ∧ ∃ m20, m0.le m20 ∧ Ok u m20 ([(b12, Obj.cells [(Value.int .i64 b_1.Start), c7, c9].toArray 29 (0, 0))] :: [(b11, Obj.cells [(Value.int .i64 a_0.Start), c2, c4].toArray 29 (0, 0))] :: S) w ∧ Env 19 a [(4, (Value.bool o19)), (5, (Value.int .i64 0))]) ?_ ?_
  rotate_left
  · clear hJ
    intro e a w hO
    obtain ⟨rfl, m59, hle, ok, E⟩ := hO
    have le_m0 := le_m0.trans hle
    have h3 := (mL (mL (mI .i64))).up hle h3
    have h5 := (mL mB).up hle h5
    have h8 := (mL (mL (mI .i64))).up hle h8
    have h10 := (mL mB).up hle h10
    refine t_norm ?_
    refine wp_ret ?_
    have hret : automaton_Same_R u m0 S (o19, 0) a w := ⟨(ok.drop.drop).down le_m0, E.d, ⟨rv_t E rfl, rv_t E rfl, trivial⟩, (show InR .i64 (0) by decide)⟩
    obtain rfl := Option.some.inj hF
    exact fin _ _ hret
  replace hF := hJ
  clear hJ
  obtain ⟨r21, e22, hF⟩ := bnd hF
  obtain ⟨r31, e32, hF⟩ := bnd hF
  obtain ⟨r41, e42, hF⟩ := bnd hF
  obtain rfl := Option.some.inj hF
  refine k_begin [] (Cls u m0 ([(b12, Obj.cells [(Value.int .i64 b_1.Start), c7, c9].toArray 29 (0, 0))] :: [(b11, Obj.cells [(Value.int .i64 a_0.Start), c2, c4].toArray 29 (0, 0))] :: [])) (Cls u m0 ([(b12, Obj.cells [(Value.int .i64 b_1.Start), c7, c9].toArray 29 (0, 0))] :: [(b11, Obj.cells [(Value.int .i64 a_0.Start), c2, c4].toArray 29 (0, 0))] :: [])) (by kernel_rfl) ?_
  intro w hw
  replace ok := okdrew ok hw
  clear hw
  have h10_o := h10
  have h3_o := h3
  have h5_o := h5
  have h8_o := h8
  refine k_next (cl1 ⟨m0, _, le_m0, ok, ⟨memAt 0 rfl, memAt 1 rfl, trivial⟩⟩ ⟨m0, _, le_m0, ok, ⟨memAt 0 rfl, memAt 1 rfl, trivial⟩⟩) fun hT => ?_
  refine k_take 0 E rfl (by kernel_rfl) nP hT (y_loadAgg (cs := [(Value.int .i64 a_0.Start), c2, c4]) agg_29 rfl rfl (Holds.cown 1 rfl rfl)) rfl rfl fun a E => ?_
  refine k_take 2 E rfl (by kernel_rfl) nP hT (y_loadAgg (cs := [(Value.int .i64 b_1.Start), c7, c9]) agg_29 rfl rfl (Holds.cown 0 rfl rfl)) rfl rfl fun a E => ?_
  refine k_all [1] (by kernel_rfl) rfl (one_c ?_)
  · refine wpOp_of_list (o := _) rfl ?_
    refine l_call E go_41 rfl (automaton_minimal_w N _ a_0 ⟨_, _, rfl, r1, h3, h5⟩ e22 ok) rfl rfl ?_
    rintro _ w ⟨m43, vs44, rfl, hle, ok, h45⟩
    have le_m0 := le_m0.trans hle
    have h3 := (mL (mL (mI .i64))).up hle h3
    have h5 := (mL mB).up hle h5
    have h8 := (mL (mL (mI .i64))).up hle h8
    have h10 := (mL mB).up hle h10
    obtain ⟨c47, c49, rfl, r46, h48, h50⟩ := h45
    refine ⟨_, rfl, fun a E => ?_⟩
    refine wpList_nil ?_
    refine t_norm ?_
    refine k_next (cl1 ⟨m43, _, le_m0, ok, ⟨memAt 0 rfl, memAt 1 rfl, trivial⟩⟩ ⟨m43, _, le_m0, ok, ⟨memAt 0 rfl, memAt 1 rfl, trivial⟩⟩) fun hT => ?_
    refine k_all [3] (by kernel_rfl) rfl (one_c ?_)
    · refine wpOp_of_list (o := _) rfl ?_
      refine l_call E go_41 rfl (automaton_minimal_w N _ b_1 ⟨_, _, rfl, r6, h8, h10⟩ e32 ok) rfl rfl ?_
      rintro _ w ⟨m51, vs52, rfl, hle, ok, h53⟩
      have le_m0 := le_m0.trans hle
      have h3 := (mL (mL (mI .i64))).up hle h3
      have h5 := (mL mB).up hle h5
      have h8 := (mL (mL (mI .i64))).up hle h8
      have h10 := (mL mB).up hle h10
      have h48 := (mL (mL (mI .i64))).up hle h48
      have h50 := (mL mB).up hle h50
      obtain ⟨c55, c57, rfl, r54, h56, h58⟩ := h53
      refine ⟨_, rfl, fun a E => ?_⟩
      refine wpList_nil ?_
      refine t_norm ?_
      refine k_next (cl1 ⟨m51, _, le_m0, ok, ⟨memAt 0 rfl, memAt 1 rfl, trivial⟩⟩ ⟨m51, _, le_m0, ok, ⟨memAt 0 rfl, memAt 1 rfl, trivial⟩⟩) fun hT => ?_
      refine k_all [4] (by kernel_rfl) rfl (one_c ?_)
      · refine wpOp_of_list (o := _) rfl ?_
        refine l_call E go_43 rfl (automaton_equal_w N _ r21 ⟨_, _, rfl, r46, h48, h50⟩ _ r31 ⟨_, _, rfl, r54, h56, h58⟩ e42 ok) rfl rfl ?_
        rintro _ w ⟨rfl, ok⟩
        refine ⟨_, rfl, fun a E => ?_⟩
        refine wpList_nil ?_
        refine t_norm ?_
        refine k_next (cl1 ⟨m51, _, le_m0, ok, ⟨memAt 0 rfl, memAt 1 rfl, trivial⟩⟩ ⟨m51, _, le_m0, ok, ⟨memAt 0 rfl, memAt 1 rfl, trivial⟩⟩) fun hT => ?_
        refine k_take 5 E rfl (by kernel_rfl) nP hT (y_assign rfl) rfl rfl fun a E => ?_
        refine k_take 6 E rfl (by kernel_rfl) nP hT (y_assign rfl) rfl rfl fun a E => ?_
        refine k_done (by kernel_rfl) ?_
        exact ⟨rfl, ⟨m51, le_m0, ok, E.keep [4, 5]⟩⟩

def calqueref09_alike_R (u : World) (m0 : Mem) (S : Segs) (r : Bool) (a : Act) (w : World) : Prop :=
  Ok u m0 S w ∧ a.defers = [] ∧ RVs Try.prog a w [.t 8 (.bool r)]
set_option maxHeartbeats 4000000 in
set_option maxRecDepth 100000 in
theorem calqueref09_alike_w {u : World} {m0 : Mem} {S : Segs} {w : World} (N : Nat) (vd_0 : List Value) (d_0 : DFA) (hd_0 : pDFA m0 vd_0 d_0) (vof_1 : Value) (of_1 : List (Int)) (hof_1 : (pL 1 (pI .i64)) m0 [vof_1] of_1) (a_2 : Int) (ra_2 : InR .i64 a_2) (b_3 : Int) (rb_3 : InR .i64 b_3) {r : Bool} (hF : calqueref09_alike N d_0 of_1 a_2 b_3 = some r) (ok : Ok u m0 S w) :
    Calls Try.prog 52 [.agg vd_0.toArray, vof_1, Value.int .i64 a_2, Value.int .i64 b_3].toArray w fun e w' => (e = .returned (.bool r) ∧ Ok u m0 S w') := by
  obtain ⟨c2, c4, rfl, r1, h3, h5⟩ := hd_0
  have le_m0 := Mem.le.refl m0
  unfold calqueref09_alike at hF
  have fin : ∀ a w, calqueref09_alike_R u m0 S r a w → bodyPost Try.prog Try.f52 (fun e w' => (e = .returned (.bool r) ∧ Ok u m0 S w')) .ret a w := by
    intro a w h
    obtain ⟨ok, hd, hrv⟩ := h
    exact c_ret2 [.t 8 (.bool r)] hd rfl hrv ⟨rfl, ok⟩
  refine enter Try.func52 rfl rfl rfl fun a E => ?_
  refine wp_seq ?_
  refine c_region ?_
  refine l_box E ok rfl rfl rfl fun b6 a w E ok => ?_
  refine l_val E ok (y_assign rfl) rfl rfl fun a E => ?_
  refine wpList_nil ?_
  refine t_norm ?_
  refine wp_seq ?_
  refine wp_seq ?_
  refine c_draw (by kernel_rfl) (by kernel_rfl) ok ?_
  refine q_val E (y_move rfl) rfl rfl fun a E => ?_
  refine q_val E (y_move rfl) rfl rfl fun a E => ?_
  obtain ⟨x7, e8, hF⟩ := bnd hF
  obtain ⟨b9, o10, es11, hl12, rr13, at14, yy15⟩ := idxAt sl_56 hof_1 e8 (P := Try.prog) (X := .tmp 10) (I := .tmp 11) (kd := .i64) (ev_of E rfl) (ev_of E rfl)
  obtain ⟨rfl, r16⟩ := rr13
  refine q_val E (yy15 _ _) rfl rfl fun a E => ?_
  refine q_val E (y_load one_3 rfl (Holds.ro at14)) rfl rfl fun a E => ?_
  refine q_val E (y_move rfl) rfl rfl fun a E => ?_
  refine q_val E (y_move rfl) rfl rfl fun a E => ?_
  obtain ⟨x17, e18, hF⟩ := bnd hF
  obtain ⟨b19, o20, es21, hl22, rr23, at24, yy25⟩ := idxAt sl_56 hof_1 e18 (P := Try.prog) (X := .tmp 14) (I := .tmp 15) (kd := .i64) (ev_of E rfl) (ev_of E rfl)
  obtain ⟨rfl, r26⟩ := rr23
  refine q_val E (yy25 _ _) rfl rfl fun a E => ?_
  refine q_val E (y_load one_3 rfl (Holds.ro at24)) rfl rfl fun a E => ?_
  refine q_val E (y_neq rfl rfl) rfl rfl fun a E => ?_
  refine wpQuiet_nil ?_
  intro w ok
  refine t_norm ?_
  refine c_if E rfl (fun hc27 => ?_) (fun hc27 => ?_)
  · replace hF := cond_t hc27 hF
    refine wp_seq ?_
    refine c_region ?_
    refine l_val E ok (y_assign rfl) rfl rfl fun a E => ?_
    refine wpList_nil ?_
    refine t_norm ?_
    refine wp_ret ?_
    refine t_ret ?_
    have hret : calqueref09_alike_R u m0 S false a w := ⟨ok.drop, E.d, ⟨rv_t E rfl, trivial⟩⟩
    obtain rfl := Option.some.inj hF
    exact fin _ _ hret
  replace hF := cond_f hc27 hF
  refine wp_skip ?_
  refine t_norm ?_
  refine wp_seq ?_
  refine wp_seq ?_
  refine c_region ?_
  refine l_val E ok (y_assign rfl) rfl rfl fun a E => ?_
  refine wpList_nil ?_
  refine t_norm ?_
  refine wp_block ?_
  obtain ⟨o29, hL, hF⟩ := bnd hF
  refine c_loop _ (fun (s : Int) a w => Ok u m0 ([(b6, Obj.cells [(Value.int .i64 d_0.Start), c2, c4].toArray 25 (0, 0))] :: S) w ∧ Env 46 a [(1, vof_1), (2, (Value.int .i64 a_2)), (3, (Value.int .i64 b_3)), (4, (Value.pointer (some ⟨b6, 0, none⟩))), (9, (Value.int .i64 s))] ∧ InR .i64 s) (fun (b : (Unit ⊕ Bool)) e a w => (Sum.elim (fun b97 => e = (.exit 0) ∧ Ok u m0 ([(b6, Obj.cells [(Value.int .i64 d_0.Start), c2, c4].toArray 25 (0, 0))] :: S) w ∧ Env 46 a []) (fun b98 => e = .ret ∧ calqueref09_alike_R u m0 S b98 a w)) b) ?_ ?_ N _ a w hL ⟨ok, E.keep [1, 2, 3, 4, 9], (show InR .i64 (0) by decide)⟩
  rotate_left
  · intro e a w _ hO
    rcases o29 with o29 | o29
    rotate_left
    · replace hF := elim_r hF
      obtain ⟨rfl, hret⟩ := hO
      refine b_ret ?_
      refine t_ret ?_
      obtain rfl := Option.some.inj hF
      exact fin _ _ hret
    replace hF := elim_l hF
    obtain ⟨rfl, ok, E⟩ := hO
    refine b_hit ?_
    refine t_norm ?_
    refine wp_seq ?_
    refine c_region ?_
    refine l_val E ok (y_assign rfl) rfl rfl fun a E => ?_
    refine wpList_nil ?_
    refine t_norm ?_
    refine wp_ret ?_
    have hret : calqueref09_alike_R u m0 S true a w := ⟨ok.drop, E.d, ⟨rv_t E rfl, trivial⟩⟩
    obtain rfl := Option.some.inj hF
    exact fin _ _ hret
  rintro c_31 a w r ⟨ok, E, r32⟩ hF
  replace hF : calqueref09_alike_b1 N d_0 of_1 a_2 b_3 c_31 = some r := hF
  unfold calqueref09_alike_b1 at hF
  refine wp_seq ?_
  refine wp_seq ?_
  refine c_region ?_
  refine l_val E ok (y_move rfl) rfl rfl fun a E => ?_
  refine l_val E ok (y_lss rfl rfl) rfl rfl fun a E => ?_
  refine wpList_nil ?_
  refine t_norm ?_
  refine c_if E rfl (fun hc33 => ?_) (fun hc33 => ?_)
  rotate_left
  · replace hF := cond_f hc33 hF
    refine wp_exit ?_
    refine t_exit ?_
    obtain rfl := Option.some.inj hF
    exact step_o (by nofun) (sl ⟨rfl, ⟨ok, E.keep []⟩⟩)
  replace hF := cond_t hc33 hF
  refine wp_skip ?_
  refine t_norm ?_
  refine wp_seq ?_
  refine wp_block ?_
  refine wp_seq ?_
  refine c_draw (by kernel_rfl) (by kernel_rfl) ok ?_
  refine q_val E (y_move rfl) rfl rfl fun a E => ?_
  refine q_val E (y_fieldAddr fo_25_1 rfl) rfl rfl fun a E => ?_
  refine q_val E (y_load one_22 rfl (Holds.own 0 rfl rfl)) rfl rfl fun a E => ?_
  refine q_val E (y_move rfl) rfl rfl fun a E => ?_
  obtain ⟨x34, e35, hF⟩ := bnd hF
  obtain ⟨b36, o37, es38, hl39, rr40, at41, yy42⟩ := idxAt sl_22 h3 e35 (P := Try.prog) (X := .tmp 25) (I := .tmp 26) (kd := .i64) (ev_of E rfl) (ev_of E rfl)
  obtain ⟨c43, rfl, h44⟩ := pL_cell rr40
  refine q_val E (yy42 _ _) rfl rfl fun a E => ?_
  refine q_val E (y_load one_56 rfl (Holds.ro at41)) rfl rfl fun a E => ?_
  refine q_val E (y_move rfl) rfl rfl fun a E => ?_
  obtain ⟨x45, e46, hF⟩ := bnd hF
  obtain ⟨b47, o48, es49, hl50, rr51, at52, yy53⟩ := idxAt sl_56 h44 e46 (P := Try.prog) (X := .tmp 28) (I := .tmp 29) (kd := .i64) (ev_of E rfl) (ev_of E rfl)
  obtain ⟨rfl, r54⟩ := rr51
  refine q_val E (yy53 _ _) rfl rfl fun a E => ?_
  refine q_val E (y_load one_3 rfl (Holds.ro at52)) rfl rfl fun a E => ?_
  obtain ⟨x55, e56, hF⟩ := bnd hF
  obtain ⟨b57, o58, es59, hl60, rr61, at62, yy63⟩ := idxAt sl_56 hof_1 e56 (P := Try.prog) (X := .tmp 23) (I := .tmp 31) (kd := .i64) (ev_of E rfl) (ev_of E rfl)
  obtain ⟨rfl, r64⟩ := rr61
  refine q_val E (yy63 _ _) rfl rfl fun a E => ?_
  refine q_val E (y_load one_3 rfl (Holds.ro at62)) rfl rfl fun a E => ?_
  refine q_val E (y_move rfl) rfl rfl fun a E => ?_
  refine q_val E (y_fieldAddr fo_25_1 rfl) rfl rfl fun a E => ?_
  refine q_val E (y_load one_22 rfl (Holds.own 0 rfl rfl)) rfl rfl fun a E => ?_
  refine q_val E (y_move rfl) rfl rfl fun a E => ?_
  obtain ⟨x65, e66, hF⟩ := bnd hF
  obtain ⟨b67, o68, es69, hl70, rr71, at72, yy73⟩ := idxAt sl_22 h3 e66 (P := Try.prog) (X := .tmp 36) (I := .tmp 37) (kd := .i64) (ev_of E rfl) (ev_of E rfl)
  obtain ⟨c74, rfl, h75⟩ := pL_cell rr71
  refine q_val E (yy73 _ _) rfl rfl fun a E => ?_
  refine q_val E (y_load one_56 rfl (Holds.ro at72)) rfl rfl fun a E => ?_
  refine q_val E (y_move rfl) rfl rfl fun a E => ?_
  obtain ⟨x76, e77, hF⟩ := bnd hF
  obtain ⟨b78, o79, es80, hl81, rr82, at83, yy84⟩ := idxAt sl_56 h75 e77 (P := Try.prog) (X := .tmp 39) (I := .tmp 40) (kd := .i64) (ev_of E rfl) (ev_of E rfl)
  obtain ⟨rfl, r85⟩ := rr82
  refine q_val E (yy84 _ _) rfl rfl fun a E => ?_
  refine q_val E (y_load one_3 rfl (Holds.ro at83)) rfl rfl fun a E => ?_
  obtain ⟨x86, e87, hF⟩ := bnd hF
  obtain ⟨b88, o89, es90, hl91, rr92, at93, yy94⟩ := idxAt sl_56 hof_1 e87 (P := Try.prog) (X := .tmp 34) (I := .tmp 42) (kd := .i64) (ev_of E rfl) (ev_of E rfl)
  obtain ⟨rfl, r95⟩ := rr92
  refine q_val E (yy94 _ _) rfl rfl fun a E => ?_
  refine q_val E (y_load one_3 rfl (Holds.ro at93)) rfl rfl fun a E => ?_
  refine q_val E (y_neq rfl rfl) rfl rfl fun a E => ?_
  refine wpQuiet_nil ?_
  intro w ok
  refine t_norm ?_
  refine c_if E rfl (fun hc96 => ?_) (fun hc96 => ?_)
  rotate_left
  · replace hF := cond_f hc96 hF
    refine wp_skip ?_
    refine b_norm ?_
    refine t_norm ?_
    refine c_region ?_
    refine l_val E ok (y_move rfl) rfl rfl fun a E => ?_
    refine l_val E ok (y_add rfl rfl (InR.inc r32 (show InR .i64 (11) by decide) hc33)) rfl rfl fun a E => ?_
    refine l_val E ok (y_assign rfl) rfl rfl fun a E => ?_
    refine wpList_nil ?_
    obtain rfl := Option.some.inj hF
    exact step_n ⟨ok, E.keep [1, 2, 3, 4, 9], (InR.inc r32 (show InR .i64 (11) by decide) hc33)⟩
  replace hF := cond_t hc96 hF
  refine wp_seq ?_
  refine c_region ?_
  refine l_val E ok (y_assign rfl) rfl rfl fun a E => ?_
  refine wpList_nil ?_
  refine t_norm ?_
  refine wp_ret ?_
  refine b_ret ?_
  refine t_ret ?_
  have hret : calqueref09_alike_R u m0 S false a w := ⟨ok.drop, E.d, ⟨rv_t E rfl, trivial⟩⟩
  obtain rfl := Option.some.inj hF
  exact step_o (by nofun) (sr ⟨rfl, hret⟩)

def calqueref09_classes_R (u : World) (m0 : Mem) (S : Segs) (r : (List (Int))) (a : Act) (w : World) : Prop :=
  ∃ m1 v0, m0.le m1 ∧ Ok u m1 S w ∧ a.defers = [] ∧ RVs Try.prog a w [.t 2 v0] ∧ (pL 1 (pI .i64)) m1 [v0] r
set_option maxHeartbeats 4000000 in
set_option maxRecDepth 100000 in
theorem calqueref09_classes_w {u : World} {m0 : Mem} {S : Segs} {w : World} (N : Nat) (vd_0 : List Value) (d_0 : DFA) (hd_0 : pDFA m0 vd_0 d_0) {r : (List (Int))} (hF : calqueref09_classes N d_0 = some r) (ok : Ok u m0 S w) :
    Calls Try.prog 51 [.agg vd_0.toArray].toArray w fun e w' => ∃ m1 v0, e = .returned v0 ∧ m0.le m1 ∧ Ok u m1 S w' ∧ (pL 1 (pI .i64)) m1 [v0] r := by
  obtain ⟨c2, c4, rfl, r1, h3, h5⟩ := hd_0
  have le_m0 := Mem.le.refl m0
  unfold calqueref09_classes at hF
  have fin : ∀ a w, calqueref09_classes_R u m0 S r a w → bodyPost Try.prog Try.f51 (fun e w' => ∃ m1 v0, e = .returned v0 ∧ m0.le m1 ∧ Ok u m1 S w' ∧ (pL 1 (pI .i64)) m1 [v0] r) .ret a w := by
    intro a w h
    obtain ⟨m1, v0, hle, ok, hd, hrv, h0⟩ := h
    exact c_ret2 [.t 2 v0] hd rfl hrv ⟨m1, v0, rfl, hle, ok, h0⟩
  refine enter Try.func51 rfl rfl rfl fun a E => ?_
  refine wp_seq ?_
  refine c_region ?_
  refine l_box E ok rfl rfl rfl fun b6 a w E ok => ?_
  refine l_val E ok (y_assign rfl) rfl rfl fun a E => ?_
  refine wpList_nil ?_
  refine t_norm ?_
  refine wp_seq ?_
  refine c_region ?_
  refine l_val E ok (y_fieldAddr fo_25_1 rfl) rfl rfl fun a E => ?_
  refine l_val E ok (y_load one_22 rfl (Holds.own 0 rfl rfl)) rfl rfl fun a E => ?_
  refine l_val E ok (y_lenL sl_22 h3 rfl) rfl rfl fun a E => ?_
  refine l_val E ok (y_assign rfl) rfl rfl fun a E => ?_
  refine wpList_nil ?_
  refine t_norm ?_
  refine wp_seq ?_
  refine c_region ?_
  refine l_val E ok (y_assign rfl) rfl rfl fun a E => ?_
  refine wpList_nil ?_
  refine t_norm ?_
  refine wp_seq ?_
  refine c_region ?_
  refine l_val E ok (y_assign rfl) rfl rfl fun a E => ?_
  refine wpList_nil ?_
  refine t_norm ?_
  refine wp_seq ?_
  refine wp_seq ?_
  refine c_region ?_
  refine l_val E ok (y_assign rfl) rfl rfl fun a E => ?_
  refine wpList_nil ?_
  refine t_norm ?_
  refine wp_block ?_
  obtain ⟨M12, ok, h13⟩ := nilrow (e := 3) (k := 1) (R := (pI .i64)) ok
  obtain ⟨o14, hL, hF⟩ := bnd hF
  refine c_loop _ (fun (s : (List (Int)) × Int) a w => ∃ c15 M16, Ok u m0 (M16 :: [(b6, Obj.cells [(Value.int .i64 d_0.Start), c2, c4].toArray 25 (0, 0))] :: S) w ∧ Env 71 a [(1, (Value.pointer (some ⟨b6, 0, none⟩))), (3, (Value.int .i64 (d_0.Next.length : Int))), (4, c15), (5, (Value.int .i64 1)), (6, (Value.int .i64 s.2))] ∧ ORow 3 1 (pI .i64) m0 c15 s.1 M16 ∧ InR .i64 s.2) (fun (b : ((List (Int)))) e a w => e = (.exit 0) ∧ ∃ c162 M163, Ok u m0 (M163 :: [(b6, Obj.cells [(Value.int .i64 d_0.Start), c2, c4].toArray 25 (0, 0))] :: S) w ∧ Env 71 a [(1, (Value.pointer (some ⟨b6, 0, none⟩))), (3, (Value.int .i64 (d_0.Next.length : Int))), (4, c162), (5, (Value.int .i64 1))] ∧ ORow 3 1 (pI .i64) m0 c162 b M163) ?_ ?_ N _ a w hL ⟨(Value.slice none 0 0), M12, ok, E.keep [1, 3, 4, 5, 6], h13, (show InR .i64 (0) by decide)⟩
  · rintro ⟨of_19, i_20⟩ a w r ⟨c21, M22, ok, E, h23, r24⟩ hF
    replace hF : calqueref09_classes_b1 N d_0 of_19 i_20 = some r := hF
    unfold calqueref09_classes_b1 at hF
    refine wp_seq ?_
    refine wp_seq ?_
    refine c_region ?_
    refine l_val E ok (y_move rfl) rfl rfl fun a E => ?_
    refine l_val E ok (y_move rfl) rfl rfl fun a E => ?_
    refine l_val E ok (y_lss rfl rfl) rfl rfl fun a E => ?_
    refine wpList_nil ?_
    refine t_norm ?_
    refine c_if E rfl (fun hc25 => ?_) (fun hc25 => ?_)
    rotate_left
    · replace hF := cond_f hc25 hF
      refine wp_exit ?_
      refine t_exit ?_
      obtain rfl := Option.some.inj hF
      exact step_o (by nofun) (⟨rfl, ⟨c21, M22, ok, E.keep [1, 3, 4, 5], h23⟩⟩)
    replace hF := cond_t hc25 hF
    refine wp_skip ?_
    refine t_norm ?_
    refine wp_seq ?_
    refine wp_block ?_
    refine wp_seq ?_
    refine c_region ?_
    refine l_val E ok (y_assign rfl) rfl rfl fun a E => ?_
    refine wpList_nil ?_
    refine t_norm ?_
    refine wp_seq ?_
    refine wp_seq ?_
    refine c_region ?_
    refine l_val E ok (y_fieldAddr fo_25_2 rfl) rfl rfl fun a E => ?_
    refine l_val E ok (y_load one_23 rfl (Holds.own 1 rfl rfl)) rfl rfl fun a E => ?_
    refine l_val E ok (y_move rfl) rfl rfl fun a E => ?_
    obtain ⟨x26, e27, hF⟩ := bnd hF
    obtain ⟨b28, o29, es30, hl31, rr32, at33, yy34⟩ := idxAt sl_23 h5 e27 (P := Try.prog) (X := .tmp 21) (I := .tmp 22) (kd := .i64) (ev_of E rfl) (ev_of E rfl)
    obtain rfl := rr32
    refine l_val E ok (yy34 _ _) rfl rfl fun a E => ?_
    refine l_val E ok (y_load one_4 rfl (Holds.ro at33)) rfl rfl fun a E => ?_
    refine wpList_nil ?_
    refine t_norm ?_
    obtain ⟨o35, hJ, hF⟩ := bnd hF
    refine c_mono (Q' := fun e a w => e = .normal ∧ Ok u m0 (M22 :: [(b6, Obj.cells [(Value.int .i64 d_0.Start), c2, c4].toArray 25 (0, 0))] :: S) w ∧ Env 71 a [(1, (Value.pointer (some ⟨b6, 0, none⟩))), (3, (Value.int .i64 (d_0.Next.length : Int))), (4, c21), (5, (Value.int .i64 1)), (6, (Value.int .i64 i_20)), (7, (Value.int .i64 o35))] ∧ InR .i64 o35) ?_ ?_
    · replace hF := hJ
      clear hJ
      refine c_if E rfl (fun hc37 => ?_) (fun hc37 => ?_)
      rotate_left
      · replace hF := cond_f hc37 hF
        refine wp_skip ?_
        obtain rfl := Option.some.inj hF
        exact ⟨rfl, ⟨ok, E.keep [1, 3, 4, 5, 6, 7], (show InR .i64 (0) by decide)⟩⟩
      replace hF := cond_t hc37 hF
      refine c_region ?_
      refine l_val E ok (y_assign rfl) rfl rfl fun a E => ?_
      refine wpList_nil ?_
      obtain rfl := Option.some.inj hF
      exact ⟨rfl, ⟨ok, E.keep [1, 3, 4, 5, 6, 7], (show InR .i64 (1) by decide)⟩⟩
    clear hJ
    intro e a w hO
    obtain ⟨rfl, ok, E, r38⟩ := hO
    refine t_norm ?_
    refine c_region ?_
    refine l_val E ok (y_move rfl) rfl rfl fun a E => ?_
    refine l_val E ok (y_move rfl) rfl rfl fun a E => ?_
    refine l_slit (R := (pI .i64)) (xo := [.tmp 26]) (xs := ([o35] : List (Int))) E ok sl_56 zero_3 rfl ⟨⟨_, rfl, rfl, (pI_mk r38)⟩, trivial⟩ rfl rfl rfl rfl fun c39 M40 a w E ok h41 => ?_
    obtain ⟨l42, e43, hF⟩ := bnd hF
    refine l_app (R := (pI .i64)) E ok 1 (mI .i64) sl_56 Try.underlying56 rfl h23 (SrcOK.ofRow h41 0 rfl ok) e43 ⟨_, zero_3, rfl⟩ rfl rfl rfl rfl fun c44 M45 a w E ok h46 => ?_
    refine l_val E ok (y_assign rfl) rfl rfl fun a E => ?_
    refine wpList_nil ?_
    refine b_norm ?_
    refine t_norm ?_
    refine c_region ?_
    refine l_val E ok (y_move rfl) rfl rfl fun a E => ?_
    refine l_val E ok (y_add rfl rfl (InR.inc r24 (pL_InR h3) hc25)) rfl rfl fun a E => ?_
    refine l_val E ok (y_assign rfl) rfl rfl fun a E => ?_
    refine wpList_nil ?_
    obtain rfl := Option.some.inj hF
    exact step_n ⟨c44, M45, (ok.pk 3 [1, 2] rfl (by decide)), E.keep [1, 3, 4, 5, 6], h46, (InR.inc r24 (pL_InR h3) hc25)⟩
  intro e a w _ hO
  obtain ⟨rfl, c47, M48, ok, E, h49⟩ := hO
  refine b_hit ?_
  refine t_norm ?_
  refine wp_block ?_
  obtain ⟨o54, hL, hF⟩ := bnd hF
  refine c_loop _ (fun (s : (List (Int)) × Int) a w => ∃ c55 M56, Ok u m0 (M56 :: [(b6, Obj.cells [(Value.int .i64 d_0.Start), c2, c4].toArray 25 (0, 0))] :: S) w ∧ Env 71 a [(1, (Value.pointer (some ⟨b6, 0, none⟩))), (3, (Value.int .i64 (d_0.Next.length : Int))), (4, c55), (5, (Value.int .i64 s.2))] ∧ ORow 3 1 (pI .i64) m0 c55 s.1 M56 ∧ InR .i64 s.2) (fun (b : ((List (Int)))) e a w => e = .ret ∧ calqueref09_classes_R u m0 S b a w) ?_ ?_ N _ a w hL ⟨c47, M48, ok, E.keep [1, 3, 4, 5], h49, (show InR .i64 (1) by decide)⟩
  rotate_left
  · intro e a w _ hO
    obtain ⟨rfl, hret⟩ := hO
    refine b_ret ?_
    obtain rfl := Option.some.inj hF
    exact fin _ _ hret
  rintro ⟨of_59, count_60⟩ a w r ⟨c61, M62, ok, E, h63, r64⟩ hF
  replace hF : calqueref09_classes_b2 N d_0 of_59 count_60 = some r := hF
  unfold calqueref09_classes_b2 at hF
  refine wp_block ?_
  refine wp_seq ?_
  refine c_region ?_
  refine l_val E ok (y_assign rfl) rfl rfl fun a E => ?_
  refine l_val E ok (y_assign rfl) rfl rfl fun a E => ?_
  refine wpList_nil ?_
  refine t_norm ?_
  refine wp_seq ?_
  refine wp_seq ?_
  refine c_region ?_
  refine l_val E ok (y_assign rfl) rfl rfl fun a E => ?_
  refine wpList_nil ?_
  refine t_norm ?_
  refine wp_block ?_
  obtain ⟨M73, ok, h74⟩ := nilrow (e := 3) (k := 1) (R := (pI .i64)) ok
  obtain ⟨M75, ok, h76⟩ := nilrow (e := 3) (k := 1) (R := (pI .i64)) ok
  obtain ⟨o77, hL, hF⟩ := bnd hF
  refine c_loop _ (fun (s : (List (Int)) × (List (Int)) × Int) a w => ∃ c78 M79 c81 M82, Ok u m0 (M82 :: M79 :: M62 :: [(b6, Obj.cells [(Value.int .i64 d_0.Start), c2, c4].toArray 25 (0, 0))] :: S) w ∧ Env 71 a [(1, (Value.pointer (some ⟨b6, 0, none⟩))), (3, (Value.int .i64 (d_0.Next.length : Int))), (4, c61), (5, (Value.int .i64 count_60)), (8, c78), (9, c81), (10, (Value.int .i64 s.2.2))] ∧ ORow 3 1 (pI .i64) m0 c78 s.1 M79 ∧ ORow 3 1 (pI .i64) m0 c81 s.2.1 M82 ∧ InR .i64 s.2.2) (fun (b : ((List (Int)) × (List (Int)))) e a w => e = (.exit 4) ∧ ∃ c156 M157 c159 M160, Ok u m0 (M160 :: M157 :: M62 :: [(b6, Obj.cells [(Value.int .i64 d_0.Start), c2, c4].toArray 25 (0, 0))] :: S) w ∧ Env 71 a [(1, (Value.pointer (some ⟨b6, 0, none⟩))), (3, (Value.int .i64 (d_0.Next.length : Int))), (5, (Value.int .i64 count_60)), (8, c156), (9, c159)] ∧ ORow 3 1 (pI .i64) m0 c156 b.1 M157 ∧ ORow 3 1 (pI .i64) m0 c159 b.2 M160) ?_ ?_ N _ a w hL ⟨(Value.slice none 0 0), M73, (Value.slice none 0 0), M75, ok, E.keep [1, 3, 4, 5, 8, 9, 10], h74, h76, (show InR .i64 (0) by decide)⟩
  rotate_left
  · intro e a w _ hO
    obtain ⟨rfl, c147, M148, c150, M151, ok, E, h149, h152⟩ := hO
    refine b_hit ?_
    refine t_norm ?_
    refine wp_seq ?_
    refine c_region ?_
    refine l_val E ok (y_move rfl) rfl rfl fun a E => ?_
    refine l_val E ok (y_assign rfl) rfl rfl fun a E => ?_
    refine wpList_nil ?_
    refine t_norm ?_
    refine wp_seq ?_
    refine wp_seq ?_
    refine c_region ?_
    refine l_val E ok (y_move rfl) rfl rfl fun a E => ?_
    refine l_val E ok (y_lenR sl_56 h152 rfl) rfl rfl fun a E => ?_
    refine l_val E ok (y_move rfl) rfl rfl fun a E => ?_
    refine l_val E ok (y_eql rfl rfl) rfl rfl fun a E => ?_
    refine wpList_nil ?_
    refine t_norm ?_
    refine c_if E rfl (fun hc153 => ?_) (fun hc153 => ?_)
    rotate_left
    · replace hF := cond_f hc153 hF
      refine wp_skip ?_
      refine t_norm ?_
      refine c_region ?_
      refine l_val E ok (y_move rfl) rfl rfl fun a E => ?_
      refine l_val E ok (y_lenR sl_56 h152 rfl) rfl rfl fun a E => ?_
      refine l_val E ok (y_assign rfl) rfl rfl fun a E => ?_
      refine wpList_nil ?_
      refine b_norm ?_
      obtain rfl := Option.some.inj hF
      exact step_n ⟨c147, M148, (ok.pk 4 [1, 3] rfl (by decide)), E.keep [1, 3, 4, 5], h149, (ORow.InR h152)⟩
    replace hF := cond_t hc153 hF
    refine wp_seq ?_
    refine c_region ?_
    refine l_val E ok (y_move rfl) rfl rfl fun a E => ?_
    refine l_val E ok (y_assign rfl) rfl rfl fun a E => ?_
    refine wpList_nil ?_
    refine t_norm ?_
    refine wp_ret ?_
    refine t_ret ?_
    refine b_ret ?_
    obtain ⟨m154, hle, ok, hfz⟩ := (ok.frs 1 rfl).freeze
    have h155 := ORow.froz (mI .i64) h149 hle hfz (by decide)
    have le_m0 := le_m0.trans hle
    have h3 := (mL (mL (mI .i64))).up hle h3
    have h5 := (mL mB).up hle h5
    have h152 := ORow.up (mI .i64) hle h152
    have hret : calqueref09_classes_R u m0 S o77.1 a w := ⟨m154, c147, le_m0, ok.drop.drop.drop, E.d, ⟨rv_t E rfl, trivial⟩, h155⟩
    obtain rfl := Option.some.inj hF
    exact step_o (by nofun) (⟨rfl, hret⟩)
  rintro ⟨next_85, first_86, i_87⟩ a w r ⟨c88, M89, c91, M92, ok, E, h90, h93, r94⟩ hF
  replace hF : calqueref09_classes_b3 N d_0 of_59 next_85 first_86 i_87 = some r := hF
  unfold calqueref09_classes_b3 at hF
  refine wp_seq ?_
  refine wp_seq ?_
  refine c_region ?_
  refine l_val E ok (y_move rfl) rfl rfl fun a E => ?_
  refine l_val E ok (y_move rfl) rfl rfl fun a E => ?_
  refine l_val E ok (y_lss rfl rfl) rfl rfl fun a E => ?_
  refine wpList_nil ?_
  refine t_norm ?_
  refine c_if E rfl (fun hc95 => ?_) (fun hc95 => ?_)
  rotate_left
  · replace hF := cond_f hc95 hF
    refine wp_exit ?_
    refine t_exit ?_
    obtain rfl := Option.some.inj hF
    exact step_o (by nofun) (⟨rfl, ⟨c88, M89, c91, M92, ok, E.keep [1, 3, 5, 8, 9], h90, h93⟩⟩)
  replace hF := cond_t hc95 hF
  refine wp_skip ?_
  refine t_norm ?_
  refine wp_seq ?_
  refine wp_block ?_
  refine wp_seq ?_
  refine c_region ?_
  refine l_val E ok (y_assign rfl) rfl rfl fun a E => ?_
  refine wpList_nil ?_
  refine t_norm ?_
  refine wp_seq ?_
  refine wp_block ?_
  obtain ⟨o97, hL, hF⟩ := bnd hF
  refine c_loop _ (fun (s : Int) a w => Ok u m0 (M92 :: M89 :: M62 :: [(b6, Obj.cells [(Value.int .i64 d_0.Start), c2, c4].toArray 25 (0, 0))] :: S) w ∧ Env 71 a [(1, (Value.pointer (some ⟨b6, 0, none⟩))), (3, (Value.int .i64 (d_0.Next.length : Int))), (4, c61), (5, (Value.int .i64 count_60)), (8, c88), (9, c91), (10, (Value.int .i64 i_87)), (11, (Value.int .i64 s))] ∧ InR .i64 s) (fun (b : Int) e a w => e = (.exit 6) ∧ Ok u m0 (M92 :: M89 :: M62 :: [(b6, Obj.cells [(Value.int .i64 d_0.Start), c2, c4].toArray 25 (0, 0))] :: S) w ∧ Env 71 a [(1, (Value.pointer (some ⟨b6, 0, none⟩))), (3, (Value.int .i64 (d_0.Next.length : Int))), (4, c61), (5, (Value.int .i64 count_60)), (8, c88), (9, c91), (10, (Value.int .i64 i_87)), (11, (Value.int .i64 b))] ∧ InR .i64 b) ?_ ?_ N _ a w hL ⟨ok, E.keep [1, 3, 4, 5, 8, 9, 10, 11], (show InR .i64 (0) by decide)⟩
  rotate_left
  · intro e a w _ hO
    obtain ⟨rfl, ok, E, r121⟩ := hO
    refine b_hit ?_
    refine t_norm ?_
    refine wp_seq ?_
    refine wp_seq ?_
    refine c_region ?_
    refine l_val E ok (y_move rfl) rfl rfl fun a E => ?_
    refine l_val E ok (y_move rfl) rfl rfl fun a E => ?_
    refine l_val E ok (y_lenR sl_56 h93 rfl) rfl rfl fun a E => ?_
    refine l_val E ok (y_eql rfl rfl) rfl rfl fun a E => ?_
    refine wpList_nil ?_
    refine t_norm ?_
    obtain ⟨o122, hJ, hF⟩ := bnd hF
    refine c_mono (Q' := fun e a w => e = .normal ∧ ∃ c123 M124, Ok u m0 (M124 :: M89 :: M62 :: [(b6, Obj.cells [(Value.int .i64 d_0.Start), c2, c4].toArray 25 (0, 0))] :: S) w ∧ Env 71 a [(1, (Value.pointer (some ⟨b6, 0, none⟩))), (3, (Value.int .i64 (d_0.Next.length : Int))), (4, c61), (5, (Value.int .i64 count_60)), (8, c88), (9, c123), (10, (Value.int .i64 i_87)), (11, (Value.int .i64 o97))] ∧ ORow 3 1 (pI .i64) m0 c123 o122 M124) ?_ ?_
    · replace hF := hJ
      clear hJ
      refine c_if E rfl (fun hc126 => ?_) (fun hc126 => ?_)
      rotate_left
      · replace hF := cond_f hc126 hF
        refine wp_skip ?_
        obtain rfl := Option.some.inj hF
        exact ⟨rfl, ⟨c91, M92, ok, E.keep [1, 3, 4, 5, 8, 9, 10, 11], h93⟩⟩
      replace hF := cond_t hc126 hF
      refine c_region ?_
      refine l_val E ok (y_move rfl) rfl rfl fun a E => ?_
      refine l_val E ok (y_move rfl) rfl rfl fun a E => ?_
      refine l_slit (R := (pI .i64)) (xo := [.tmp 56]) (xs := ([i_87] : List (Int))) E ok sl_56 zero_3 rfl ⟨⟨_, rfl, rfl, (pI_mk r94)⟩, trivial⟩ rfl rfl rfl rfl fun c127 M128 a w E ok h129 => ?_
      obtain ⟨l130, e131, hF⟩ := bnd hF
      refine l_app (R := (pI .i64)) E ok 1 (mI .i64) sl_56 Try.underlying56 rfl h93 (SrcOK.ofRow h129 0 rfl ok) e131 ⟨_, zero_3, rfl⟩ rfl rfl rfl rfl fun c132 M133 a w E ok h134 => ?_
      refine l_val E ok (y_assign rfl) rfl rfl fun a E => ?_
      refine wpList_nil ?_
      obtain rfl := Option.some.inj hF
      exact ⟨rfl, ⟨c132, M133, (ok.pk 5 [1, 2, 3, 4] rfl (by decide)), E.keep [1, 3, 4, 5, 8, 9, 10, 11], h134⟩⟩
    clear hJ
    intro e a w hO
    obtain ⟨rfl, c135, M136, ok, E, h137⟩ := hO
    refine t_norm ?_
    refine c_region ?_
    refine l_val E ok (y_move rfl) rfl rfl fun a E => ?_
    refine l_val E ok (y_move rfl) rfl rfl fun a E => ?_
    refine l_slit (R := (pI .i64)) (xo := [.tmp 60]) (xs := ([o97] : List (Int))) E ok sl_56 zero_3 rfl ⟨⟨_, rfl, rfl, (pI_mk r121)⟩, trivial⟩ rfl rfl rfl rfl fun c138 M139 a w E ok h140 => ?_
    obtain ⟨l141, e142, hF⟩ := bnd hF
    refine l_app (R := (pI .i64)) E ok 2 (mI .i64) sl_56 Try.underlying56 rfl h90 (SrcOK.ofRow h140 0 rfl ok) e142 ⟨_, zero_3, rfl⟩ rfl rfl rfl rfl fun c143 M144 a w E ok h145 => ?_
    refine l_val E ok (y_assign rfl) rfl rfl fun a E => ?_
    refine wpList_nil ?_
    refine b_norm ?_
    refine t_norm ?_
    refine c_region ?_
    refine l_val E ok (y_move rfl) rfl rfl fun a E => ?_
    refine l_val E ok (y_add rfl rfl (InR.inc r94 (pL_InR h3) hc95)) rfl rfl fun a E => ?_
    refine l_val E ok (y_assign rfl) rfl rfl fun a E => ?_
    refine wpList_nil ?_
    obtain rfl := Option.some.inj hF
    exact step_n ⟨c143, M144, c135, M136, (ok.pk 5 [1, 2, 3, 4] rfl (by decide)), E.keep [1, 3, 4, 5, 8, 9, 10], h145, h137, (InR.inc r94 (pL_InR h3) hc95)⟩
  rintro n_99 a w r ⟨ok, E, r100⟩ hF
  replace hF : calqueref09_classes_b4 N d_0 of_59 first_86 i_87 n_99 = some r := hF
  unfold calqueref09_classes_b4 at hF
  refine wp_seq ?_
  refine wp_seq ?_
  refine c_draw (by kernel_rfl) (by kernel_rfl) ok ?_
  refine q_val E (y_move rfl) rfl rfl fun a E => ?_
  refine q_val E (y_move rfl) rfl rfl fun a E => ?_
  refine q_val E (y_lenR sl_56 h93 rfl) rfl rfl fun a E => ?_
  refine q_val E (y_lss rfl rfl) rfl rfl fun a E => ?_
  refine q_val E (y_move rfl) rfl rfl fun a E => ?_
  refine bsplit (decide (n_99 < (first_86.length : Int))) (fun hc101 => ?_) (fun hc101 => ?_)
  rotate_left
  · replace hF := cond_f hc101 hF
    replace E := E.upd 38 hc101 rfl
    refine q_skip E rfl rfl fun a E => ?_
    refine q_skip E rfl rfl fun a E => ?_
    refine q_skip E rfl rfl fun a E => ?_
    refine q_skip E rfl rfl fun a E => ?_
    refine q_skip E rfl rfl fun a E => ?_
    refine q_skip E rfl rfl fun a E => ?_
    refine q_skip E rfl rfl fun a E => ?_
    refine q_skip E rfl rfl fun a E => ?_
    refine q_skip E rfl rfl fun a E => ?_
    refine q_val E (y_pickF rfl rfl) rfl rfl fun a E => ?_
    refine wpQuiet_nil ?_
    intro w ok
    refine t_norm ?_
    refine c_if E rfl (fun h => by cases h) (fun _ => ?_)
    refine wp_exit ?_
    refine t_exit ?_
    obtain rfl := Option.some.inj hF
    exact step_o (by nofun) (⟨rfl, ⟨ok, E.keep [1, 3, 4, 5, 8, 9, 10, 11], r100⟩⟩)
  replace hF := cond_t hc101 hF
  replace E := E.upd 38 hc101 rfl
  refine q_val E (y_loadAgg (cs := [(Value.int .i64 d_0.Start), c2, c4]) agg_25 rfl rfl (Holds.own 3 rfl rfl)) rfl rfl fun a E => ?_
  refine q_val E (y_move rfl) rfl rfl fun a E => ?_
  refine q_val E (y_move rfl) rfl rfl fun a E => ?_
  refine q_val E (y_move rfl) rfl rfl fun a E => ?_
  refine q_val E (y_move rfl) rfl rfl fun a E => ?_
  obtain ⟨x102, e103, hF⟩ := bnd hF
  obtain ⟨b104, o105, hp106, yy107⟩ := orowAt sl_56 h93 e103 (P := Try.prog) (X := .tmp 42) (I := .tmp 43) (kd := .i64) (ev_of E rfl) (ev_of E rfl)
  refine q_val E (yy107 _ _) rfl rfl fun a E => ?_
  obtain ⟨es108, hl109, rr110, hh111⟩ := orowGet h93 e103 hp106 (by decide)
  obtain ⟨rfl, r112⟩ := rr110
  refine q_val E (y_load one_3 rfl (hh111 _ _ _ 0 rfl)) rfl rfl fun a E => ?_
  obtain ⟨r118, e119, hF⟩ := bnd hF
  refine q_call E (v := (Value.bool r118)) go_52 rfl (fun w ok => ?_) rfl rfl fun a E => ?_
  · obtain ⟨m113, hle115, ok114, hfz116⟩ := (ok.frs 2 rfl).freeze
    have h117 := ORow.froz (mI .i64) h63 hle115 hfz116 (by decide)
    have h3' := (mL (mL (mI .i64))).up hle115 h3
    have h5' := (mL mB).up hle115 h5
    refine Calls.mono (calqueref09_alike_w N _ d_0 ⟨_, _, rfl, r1, h3', h5'⟩ _ of_59 h117 i_87 r94 x102 r112 e119 ok114) fun _ _ hz => ?_
    obtain ⟨hz1, okz⟩ := hz
    exact ⟨hz1, (Ok.thawAt 2 rfl ok hle115 hfz116 okz)⟩
  refine q_val E (y_not rfl) rfl rfl fun a E => ?_
  refine q_val E (y_pickT rfl rfl) rfl rfl fun a E => ?_
  refine wpQuiet_nil ?_
  intro w ok
  refine t_norm ?_
  refine c_if E rfl (fun hc120 => ?_) (fun hc120 => ?_)
  rotate_left
  · replace hF := cond_f hc120 hF
    refine wp_exit ?_
    refine t_exit ?_
    obtain rfl := Option.some.inj hF
    exact step_o (by nofun) (⟨rfl, ⟨ok, E.keep [1, 3, 4, 5, 8, 9, 10, 11], r100⟩⟩)
  replace hF := cond_t hc120 hF
  refine wp_skip ?_
  refine t_norm ?_
  refine wp_block ?_
  refine c_region ?_
  refine l_val E ok (y_move rfl) rfl rfl fun a E => ?_
  refine l_val E ok (y_add rfl rfl (InR.inc r100 (ORow.InR h93) hc101)) rfl rfl fun a E => ?_
  refine l_val E ok (y_assign rfl) rfl rfl fun a E => ?_
  refine wpList_nil ?_
  refine b_norm ?_
  obtain rfl := Option.some.inj hF
  exact step_n ⟨ok, E.keep [1, 3, 4, 5, 8, 9, 10, 11], (InR.inc r100 (ORow.InR h93) hc101)⟩

def calqueref09_minimal_R (u : World) (m0 : Mem) (S : Segs) (r : DFA) (a : Act) (w : World) : Prop :=
  ∃ m1 v0, m0.le m1 ∧ Ok u m1 S w ∧ a.defers = [] ∧ RVs Try.prog a w [.c 2 25 (.agg v0.toArray)] ∧ pDFA m1 v0 r
set_option maxHeartbeats 4000000 in
set_option maxRecDepth 100000 in
theorem calqueref09_minimal_w {u : World} {m0 : Mem} {S : Segs} {w : World} (N : Nat) (vd_0 : List Value) (d_0 : DFA) (hd_0 : pDFA m0 vd_0 d_0) {r : DFA} (hF : calqueref09_minimal N d_0 = some r) (ok : Ok u m0 S w) :
    Calls Try.prog 42 [.agg vd_0.toArray].toArray w fun e w' => ∃ m1 v0, e = .returned (.agg v0.toArray) ∧ m0.le m1 ∧ Ok u m1 S w' ∧ pDFA m1 v0 r := by
  obtain ⟨c2, c4, rfl, r1, h3, h5⟩ := hd_0
  have le_m0 := Mem.le.refl m0
  unfold calqueref09_minimal at hF
  have fin : ∀ a w, calqueref09_minimal_R u m0 S r a w → bodyPost Try.prog Try.f42 (fun e w' => ∃ m1 v0, e = .returned (.agg v0.toArray) ∧ m0.le m1 ∧ Ok u m1 S w' ∧ pDFA m1 v0 r) .ret a w := by
    intro a w h
    obtain ⟨m1, v0, hle, ok, hd, hrv, h0⟩ := h
    exact c_ret2 [.c 2 25 (.agg v0.toArray)] hd rfl hrv ⟨m1, v0, rfl, hle, ok, h0⟩
  refine enter Try.func42 rfl rfl rfl fun a E => ?_
  refine wp_seq ?_
  refine c_region ?_
  refine l_box E ok rfl rfl rfl fun b6 a w E ok => ?_
  refine l_alloc E ok zero_25 rfl rfl fun b7 a w E ok => ?_
  refine wpList_nil ?_
  refine t_norm ?_
  refine wp_seq ?_
  refine c_region ?_
  refine l_val E ok (y_loadAgg (cs := [(Value.int .i64 d_0.Start), c2, c4]) agg_25 rfl rfl (Holds.own 1 rfl rfl)) rfl rfl fun a E => ?_
  obtain ⟨r8, e9, hF⟩ := bnd hF
  refine l_call E go_51 rfl (calqueref09_classes_w N _ d_0 ⟨_, _, rfl, r1, h3, h5⟩ e9 ok) rfl rfl ?_
  rintro _ w ⟨m10, c11, rfl, hle, ok, h12⟩
  have le_m0 := le_m0.trans hle
  have h3 := (mL (mL (mI .i64))).up hle h3
  have h5 := (mL mB).up hle h5
  refine ⟨_, rfl, fun a E => ?_⟩
  refine l_val E ok (y_assign rfl) rfl rfl fun a E => ?_
  refine wpList_nil ?_
  refine t_norm ?_
  refine wp_seq ?_
  refine c_region ?_
  refine l_val E ok (y_move rfl) rfl rfl fun a E => ?_
  refine l_val E ok (y_fieldAddr fo_25_0 rfl) rfl rfl fun a E => ?_
  refine l_val E ok (y_load one_3 rfl (Holds.own 1 rfl rfl)) rfl rfl fun a E => ?_
  obtain ⟨x13, e14, hF⟩ := bnd hF
  obtain ⟨b15, o16, es17, hl18, rr19, at20, yy21⟩ := idxAt sl_56 h12 e14 (P := Try.prog) (X := .tmp 14) (I := .tmp 16) (kd := .i64) (ev_of E rfl) (ev_of E rfl)
  obtain ⟨rfl, r22⟩ := rr19
  refine l_val E ok (yy21 _ _) rfl rfl fun a E => ?_
  refine l_val E ok (y_load one_3 rfl (Holds.ro at20)) rfl rfl fun a E => ?_
  refine l_slit (R := (pI .i64)) (xo := [.tmp 18]) (xs := ([x13] : List (Int))) E ok sl_56 zero_3 rfl ⟨⟨_, rfl, rfl, (pI_mk r22)⟩, trivial⟩ rfl rfl rfl rfl fun c23 M24 a w E ok h25 => ?_
  refine l_val E ok (y_assign rfl) rfl rfl fun a E => ?_
  refine wpList_nil ?_
  refine t_norm ?_
  refine wp_seq ?_
  refine c_region ?_
  refine l_val E ok (y_fieldAddr fo_25_0 rfl) rfl rfl fun a E => ?_
  refine l_val E ok (y_load one_3 rfl (Holds.own 2 rfl rfl)) rfl rfl fun a E => ?_
  refine l_slit (R := (pI .i64)) (xo := [.tmp 21]) (xs := ([d_0.Start] : List (Int))) E ok sl_56 zero_3 rfl ⟨⟨_, rfl, rfl, (pI_mk r1)⟩, trivial⟩ rfl rfl rfl rfl fun c26 M27 a w E ok h28 => ?_
  refine l_val E ok (y_assign rfl) rfl rfl fun a E => ?_
  refine wpList_nil ?_
  refine t_norm ?_
  refine wp_seq ?_
  refine c_region ?_
  refine l_alloc E ok zero_25 rfl rfl fun b29 a w E ok => ?_
  refine wpList_nil ?_
  refine t_norm ?_
  refine wp_seq ?_
  refine wp_seq ?_
  refine c_region ?_
  refine l_val E ok (y_assign rfl) rfl rfl fun a E => ?_
  refine wpList_nil ?_
  refine t_norm ?_
  refine wp_block ?_
  obtain ⟨M51, ok, h52⟩ := nilrow (e := 56) (k := 1) (R := (pL 1 (pI .i64))) ok
  obtain ⟨M53, ok, h54⟩ := nilrow (e := 4) (k := 1) (R := pB) ok
  obtain ⟨o55, hL, hF⟩ := bnd hF
  refine c_loop _ (fun (s : (List (Int)) × (List (Int)) × Int × DFA) a w => ∃ m56 c57 M58 c60 M61 c65 M66 c68 M69, m10.le m56 ∧ Ok u m56 (M69 :: M66 :: [(b29, Obj.cells [(Value.int .i64 s.2.2.2.Start), c65, c68].toArray 25 (0, 0))] :: M61 :: M58 :: [(b7, Obj.cells [(Value.int .i64 0), (Value.slice none 0 0), (Value.slice none 0 0)].toArray 25 (0, 0))] :: [(b6, Obj.cells [(Value.int .i64 d_0.Start), c2, c4].toArray 25 (0, 0))] :: S) w ∧ Env 89 a [(1, (Value.pointer (some ⟨b6, 0, none⟩))), (2, (Value.pointer (some ⟨b7, 0, none⟩))), (3, c11), (4, c57), (5, c60), (6, (Value.pointer (some ⟨b29, 0, none⟩))), (7, (Value.int .i64 s.2.2.1))] ∧ ORow 3 1 (pI .i64) m56 c57 s.1 M58 ∧ ORow 3 1 (pI .i64) m56 c60 s.2.1 M61 ∧ InR .i64 s.2.2.1 ∧ InR .i64 s.2.2.2.Start ∧ ORow 56 1 (pL 1 (pI .i64)) m56 c65 s.2.2.2.Next M66 ∧ ORow 4 1 pB m56 c68 s.2.2.2.Accept M69) (fun (b : DFA) e a w => e = (.exit 0) ∧ ∃ m374 c376 M377 c379 M380, m10.le m374 ∧ Ok u m374 (M380 :: M377 :: [(b29, Obj.cells [(Value.int .i64 b.Start), c376, c379].toArray 25 (0, 0))] :: [(b7, Obj.cells [(Value.int .i64 0), (Value.slice none 0 0), (Value.slice none 0 0)].toArray 25 (0, 0))] :: [(b6, Obj.cells [(Value.int .i64 d_0.Start), c2, c4].toArray 25 (0, 0))] :: S) w ∧ Env 89 a [(2, (Value.pointer (some ⟨b7, 0, none⟩))), (6, (Value.pointer (some ⟨b29, 0, none⟩)))] ∧ InR .i64 b.Start ∧ ORow 56 1 (pL 1 (pI .i64)) m374 c376 b.Next M377 ∧ ORow 4 1 pB m374 c379 b.Accept M380) ?_ ?_ N _ a w hL ⟨m10, c23, M24, c26, M27, (Value.slice none 0 0), M51, (Value.slice none 0 0), M53, Mem.le.refl _, ok, E.keep [1, 2, 3, 4, 5, 6, 7], h25, h28, (show InR .i64 (0) by decide), (show InR .i64 0 by decide), h52, h54⟩
  rotate_left
  · intro e a w _ hO
    obtain ⟨rfl, m362, c364, M365, c367, M368, hle, ok, E, r363, h366, h369⟩ := hO
    have le_m0 := le_m0.trans hle
    have h3 := (mL (mL (mI .i64))).up hle h3
    have h5 := (mL mB).up hle h5
    have h12 := (mL (mI .i64)).up hle h12
    have at20 := At.up hle at20
    refine b_hit ?_
    refine t_norm ?_
    refine wp_seq ?_
    refine c_region ?_
    refine l_val E ok (y_loadAgg (cs := [(Value.int .i64 o55.Start), c364, c367]) agg_25 rfl rfl (Holds.own 2 rfl rfl)) rfl rfl fun a E => ?_
    refine l_storeB E ok 3 rfl rfl rfl inf_25 rfl rfl ⟨rfl, (ORow.one h366), (ORow.one h369), trivial⟩ rfl rfl fun w ok => ?_
    refine wpList_nil ?_
    refine t_norm ?_
    refine wp_ret ?_
    obtain ⟨m370, hle, ok, hfz⟩ := (ok.frs 1 rfl).freeze
    have h371 := ORow.froz (mL (mI .i64)) h366 hle hfz (by decide)
    have le_m0 := le_m0.trans hle
    have h3 := (mL (mL (mI .i64))).up hle h3
    have h5 := (mL mB).up hle h5
    have h12 := (mL (mI .i64)).up hle h12
    have at20 := At.up hle at20
    have h369 := ORow.up mB hle h369
    obtain ⟨m372, hle, ok, hfz⟩ := (ok.frs 0 rfl).freeze
    have h373 := ORow.froz mB h369 hle hfz (by decide)
    have le_m0 := le_m0.trans hle
    have h3 := (mL (mL (mI .i64))).up hle h3
    have h5 := (mL mB).up hle h5
    have h12 := (mL (mI .i64)).up hle h12
    have at20 := At.up hle at20
    have h371 := (mL (mL (mI .i64))).up hle h371
    have hret : calqueref09_minimal_R u m0 S o55 a w := ⟨m372, [(Value.int .i64 o55.Start), c364, c367], le_m0, ok.drop.drop.drop, E.d, ⟨rv_c (cs := [(Value.int .i64 o55.Start), c364, c367]) E ok rfl agg_25 rfl (Holds.own 1 rfl rfl), trivial⟩, ⟨_, _, rfl, r363, h371, h373⟩⟩
    obtain rfl := Option.some.inj hF
    exact fin _ _ hret
  rintro ⟨found_71, state_72, i_73, x_74⟩ a w r ⟨m75, c76, M77, c79, M80, c84, M85, c87, M88, hle, ok, E, h78, h81, r82, r83, h86, h89⟩ hF
  replace hF : calqueref09_minimal_b1 N d_0 r8 found_71 state_72 i_73 x_74 = some r := hF
  unfold calqueref09_minimal_b1 at hF
  have le_m10 := Mem.le.refl m10
  have le_m0 := le_m0.trans hle
  have le_m10 := le_m10.trans hle
  have h3 := (mL (mL (mI .i64))).up hle h3
  have h5 := (mL mB).up hle h5
  have h12 := (mL (mI .i64)).up hle h12
  have at20 := At.up hle at20
  refine wp_seq ?_
  refine wp_seq ?_
  refine c_region ?_
  refine l_val E ok (y_move rfl) rfl rfl fun a E => ?_
  refine l_val E ok (y_move rfl) rfl rfl fun a E => ?_
  refine l_val E ok (y_lenR sl_56 h78 rfl) rfl rfl fun a E => ?_
  refine l_val E ok (y_lss rfl rfl) rfl rfl fun a E => ?_
  refine wpList_nil ?_
  refine t_norm ?_
  refine c_if E rfl (fun hc90 => ?_) (fun hc90 => ?_)
  rotate_left
  · replace hF := cond_f hc90 hF
    refine wp_exit ?_
    refine t_exit ?_
    obtain rfl := Option.some.inj hF
    exact step_o (by nofun) (⟨rfl, ⟨m75, c84, M85, c87, M88, le_m10, (ok.pk 7 [0, 1, 2, 5, 6] rfl (by decide)), E.keep [2, 6], r83, h86, h89⟩⟩)
  replace hF := cond_t hc90 hF
  refine wp_skip ?_
  refine t_norm ?_
  refine wp_seq ?_
  refine wp_block ?_
  refine wp_seq ?_
  refine c_region ?_
  refine l_val E ok (y_assign rfl) rfl rfl fun a E => ?_
  refine wpList_nil ?_
  refine t_norm ?_
  refine wp_seq ?_
  refine wp_seq ?_
  refine c_region ?_
  refine l_val E ok (y_assign rfl) rfl rfl fun a E => ?_
  refine wpList_nil ?_
  refine t_norm ?_
  refine wp_block ?_
  obtain ⟨M108, ok, h109⟩ := nilrow (e := 3) (k := 1) (R := (pI .i64)) ok
  obtain ⟨o110, hL, hF⟩ := bnd hF
  refine c_loop _ (fun (s : (List (Int)) × (List (Int)) × (List (Int)) × Int) a w => ∃ c111 M112 c114 M115 c117 M118, Ok u m75 (M118 :: M88 :: M85 :: [(b29, Obj.cells [(Value.int .i64 x_74.Start), c84, c87].toArray 25 (0, 0))] :: M115 :: M112 :: [(b7, Obj.cells [(Value.int .i64 0), (Value.slice none 0 0), (Value.slice none 0 0)].toArray 25 (0, 0))] :: [(b6, Obj.cells [(Value.int .i64 d_0.Start), c2, c4].toArray 25 (0, 0))] :: S) w ∧ Env 89 a [(1, (Value.pointer (some ⟨b6, 0, none⟩))), (2, (Value.pointer (some ⟨b7, 0, none⟩))), (3, c11), (4, c111), (5, c114), (6, (Value.pointer (some ⟨b29, 0, none⟩))), (7, (Value.int .i64 i_73)), (8, c117), (9, (Value.int .i64 s.2.2.2))] ∧ ORow 3 1 (pI .i64) m75 c111 s.1 M112 ∧ ORow 3 1 (pI .i64) m75 c114 s.2.1 M115 ∧ ORow 3 1 (pI .i64) m75 c117 s.2.2.1 M118 ∧ InR .i64 s.2.2.2) (fun (b : ((List (Int)) × (List (Int)) × (List (Int)))) e a w => e = (.exit 2) ∧ ∃ c353 M354 c356 M357 c359 M360, Ok u m75 (M360 :: M88 :: M85 :: [(b29, Obj.cells [(Value.int .i64 x_74.Start), c84, c87].toArray 25 (0, 0))] :: M357 :: M354 :: [(b7, Obj.cells [(Value.int .i64 0), (Value.slice none 0 0), (Value.slice none 0 0)].toArray 25 (0, 0))] :: [(b6, Obj.cells [(Value.int .i64 d_0.Start), c2, c4].toArray 25 (0, 0))] :: S) w ∧ Env 89 a [(1, (Value.pointer (some ⟨b6, 0, none⟩))), (2, (Value.pointer (some ⟨b7, 0, none⟩))), (3, c11), (4, c353), (5, c356), (6, (Value.pointer (some ⟨b29, 0, none⟩))), (7, (Value.int .i64 i_73)), (8, c359)] ∧ ORow 3 1 (pI .i64) m75 c353 b.1 M354 ∧ ORow 3 1 (pI .i64) m75 c356 b.2.1 M357 ∧ ORow 3 1 (pI .i64) m75 c359 b.2.2 M360) ?_ ?_ N _ a w hL ⟨c76, M77, c79, M80, (Value.slice none 0 0), M108, ok, E.keep [1, 2, 3, 4, 5, 6, 7, 8, 9], h78, h81, h109, (show InR .i64 (0) by decide)⟩
  · as_aux_lemma =>
      rintro ⟨found_121, state_122, row_123, c_124⟩ a w r ⟨c125, M126, c128, M129, c131, M132, ok, E, h127, h130, h133, r134⟩ hF
      replace hF : calqueref09_minimal_b2 N d_0 r8 i_73 found_121 state_122 row_123 c_124 = some r := hF
      unfold calqueref09_minimal_b2 at hF
      refine wp_seq ?_
      refine wp_seq ?_
      refine c_region ?_
      refine l_val E ok (y_move rfl) rfl rfl fun a E => ?_
      refine l_val E ok (y_lss rfl rfl) rfl rfl fun a E => ?_
      refine wpList_nil ?_
      refine t_norm ?_
      refine c_if E rfl (fun hc135 => ?_) (fun hc135 => ?_)
      rotate_left
      · replace hF := cond_f hc135 hF
        refine wp_exit ?_
        refine t_exit ?_
        obtain rfl := Option.some.inj hF
        exact step_o (by nofun) (⟨rfl, ⟨c125, M126, c128, M129, c131, M132, ok, E.keep [1, 2, 3, 4, 5, 6, 7, 8], h127, h130, h133⟩⟩)
      replace hF := cond_t hc135 hF
      refine wp_skip ?_
      refine t_norm ?_
      refine wp_seq ?_
      refine wp_block ?_
      refine wp_seq ?_
      refine c_draw (by kernel_rfl) (by kernel_rfl) ok ?_
      refine q_val E (y_fieldAddr fo_25_1 rfl) rfl rfl fun a E => ?_
      refine q_val E (y_load one_22 rfl (Holds.own 7 rfl rfl)) rfl rfl fun a E => ?_
      refine q_val E (y_move rfl) rfl rfl fun a E => ?_
      refine q_val E (y_move rfl) rfl rfl fun a E => ?_
      obtain ⟨x136, e137, hF⟩ := bnd hF
      obtain ⟨b138, o139, hp140, yy141⟩ := orowAt sl_56 h130 e137 (P := Try.prog) (X := .tmp 35) (I := .tmp 36) (kd := .i64) (ev_of E rfl) (ev_of E rfl)
      refine q_val E (yy141 _ _) rfl rfl fun a E => ?_
      obtain ⟨es142, hl143, rr144, hh145⟩ := orowGet h130 e137 hp140 (by decide)
      obtain ⟨rfl, r146⟩ := rr144
      refine q_val E (y_load one_3 rfl (hh145 _ _ _ 4 rfl)) rfl rfl fun a E => ?_
      obtain ⟨x147, e148, hF⟩ := bnd hF
      obtain ⟨b149, o150, es151, hl152, rr153, at154, yy155⟩ := idxAt sl_22 h3 e148 (P := Try.prog) (X := .tmp 34) (I := .tmp 38) (kd := .i64) (ev_of E rfl) (ev_of E rfl)
      obtain ⟨c156, rfl, h157⟩ := pL_cell rr153
      refine q_val E (yy155 _ _) rfl rfl fun a E => ?_
      refine q_val E (y_load one_56 rfl (Holds.ro at154)) rfl rfl fun a E => ?_
      refine q_val E (y_move rfl) rfl rfl fun a E => ?_
      obtain ⟨x158, e159, hF⟩ := bnd hF
      obtain ⟨b160, o161, es162, hl163, rr164, at165, yy166⟩ := idxAt sl_56 h157 e159 (P := Try.prog) (X := .tmp 40) (I := .tmp 41) (kd := .i64) (ev_of E rfl) (ev_of E rfl)
      obtain ⟨rfl, r167⟩ := rr164
      refine q_val E (yy166 _ _) rfl rfl fun a E => ?_
      refine q_val E (y_load one_3 rfl (Holds.ro at165)) rfl rfl fun a E => ?_
      refine q_val E (y_assign rfl) rfl rfl fun a E => ?_
      refine wpQuiet_nil ?_
      intro w ok
      refine t_norm ?_
      refine wp_seq ?_
      refine c_region ?_
      refine l_val E ok (y_move rfl) rfl rfl fun a E => ?_
      refine l_val E ok (y_move rfl) rfl rfl fun a E => ?_
      refine l_val E ok (y_move rfl) rfl rfl fun a E => ?_
      obtain ⟨x168, e169, hF⟩ := bnd hF
      obtain ⟨b170, o171, es172, hl173, rr174, at175, yy176⟩ := idxAt sl_56 h12 e169 (P := Try.prog) (X := .tmp 45) (I := .tmp 46) (kd := .i64) (ev_of E rfl) (ev_of E rfl)
      obtain ⟨rfl, r177⟩ := rr174
      refine l_val E ok (yy176 _ _) rfl rfl fun a E => ?_
      refine l_val E ok (y_load one_3 rfl (Holds.ro at175)) rfl rfl fun a E => ?_
      obtain ⟨r183, e184, hF⟩ := bnd hF
      obtain ⟨m178, hle180, ok179, hfz181⟩ := (ok.frs 5 rfl).freeze
      have h182 := ORow.froz (mI .i64) h127 hle180 hfz181 (by decide)
      refine l_call E go_39 rfl (calqueref09_index_w N _ found_121 h182 x168 r177 e184 ok179) rfl rfl ?_
      rintro _ w ⟨⟨rfl, okz⟩, r185⟩
      replace ok := (Ok.thawAt 5 rfl ok hle180 hfz181 okz)
      refine ⟨_, rfl, fun a E => ?_⟩
      refine l_val E ok (y_assign rfl) rfl rfl fun a E => ?_
      refine wpList_nil ?_
      refine t_norm ?_
      refine wp_seq ?_
      refine wp_seq ?_
      refine c_region ?_
      refine l_val E ok (y_move rfl) rfl rfl fun a E => ?_
      refine l_val E ok (y_lss rfl rfl) rfl rfl fun a E => ?_
      refine wpList_nil ?_
      refine t_norm ?_
      obtain ⟨o186, hJ, hF⟩ := bnd hF
      refine c_mono (Q' := fun e a w => e = .normal ∧ ∃ c187 M188 c190 M191, Ok u m75 (M132 :: M88 :: M85 :: [(b29, Obj.cells [(Value.int .i64 x_74.Start), c84, c87].toArray 25 (0, 0))] :: M191 :: M188 :: [(b7, Obj.cells [(Value.int .i64 0), (Value.slice none 0 0), (Value.slice none 0 0)].toArray 25 (0, 0))] :: [(b6, Obj.cells [(Value.int .i64 d_0.Start), c2, c4].toArray 25 (0, 0))] :: S) w ∧ Env 89 a [(1, (Value.pointer (some ⟨b6, 0, none⟩))), (2, (Value.pointer (some ⟨b7, 0, none⟩))), (3, c11), (4, c187), (5, c190), (6, (Value.pointer (some ⟨b29, 0, none⟩))), (7, (Value.int .i64 i_73)), (8, c131), (9, (Value.int .i64 c_124)), (11, (Value.int .i64 o186.2.2))] ∧ ORow 3 1 (pI .i64) m75 c187 o186.1 M188 ∧ ORow 3 1 (pI .i64) m75 c190 o186.2.1 M191 ∧ InR .i64 o186.2.2) ?_ ?_
      rotate_left
      · clear hJ
        intro e a w hO
        obtain ⟨rfl, c221, M222, c224, M225, ok, E, h223, h226, r227⟩ := hO
        refine t_norm ?_
        refine c_region ?_
        refine l_val E ok (y_move rfl) rfl rfl fun a E => ?_
        refine l_val E ok (y_move rfl) rfl rfl fun a E => ?_
        refine l_slit (R := (pI .i64)) (xo := [.tmp 66]) (xs := ([o186.2.2] : List (Int))) E ok sl_56 zero_3 rfl ⟨⟨_, rfl, rfl, (pI_mk r227)⟩, trivial⟩ rfl rfl rfl rfl fun c228 M229 a w E ok h230 => ?_
        obtain ⟨l231, e232, hF⟩ := bnd hF
        refine l_app (R := (pI .i64)) E ok 1 (mI .i64) sl_56 Try.underlying56 rfl h133 (SrcOK.ofRow h230 0 rfl ok) e232 ⟨_, zero_3, rfl⟩ rfl rfl rfl rfl fun c233 M234 a w E ok h235 => ?_
        refine l_val E ok (y_assign rfl) rfl rfl fun a E => ?_
        refine wpList_nil ?_
        refine b_norm ?_
        refine t_norm ?_
        refine c_region ?_
        refine l_val E ok (y_move rfl) rfl rfl fun a E => ?_
        refine l_val E ok (y_add rfl rfl (InR.inc r134 (show InR .i64 (11) by decide) hc135)) rfl rfl fun a E => ?_
        refine l_val E ok (y_assign rfl) rfl rfl fun a E => ?_
        refine wpList_nil ?_
        obtain rfl := Option.some.inj hF
        exact step_n ⟨c221, M222, c224, M225, c233, M234, (ok.pk 9 [1, 2, 3, 4, 5, 6, 7, 8] rfl (by decide)), E.keep [1, 2, 3, 4, 5, 6, 7, 8, 9], h223, h226, h235, (InR.inc r134 (show InR .i64 (11) by decide) hc135)⟩
      replace hF := hJ
      clear hJ
      refine c_if E rfl (fun hc194 => ?_) (fun hc194 => ?_)
      rotate_left
      · replace hF := cond_f hc194 hF
        refine wp_skip ?_
        obtain rfl := Option.some.inj hF
        exact ⟨rfl, ⟨c125, M126, c128, M129, ok, E.keep [1, 2, 3, 4, 5, 6, 7, 8, 9, 11], h127, h130, r185⟩⟩
      replace hF := cond_t hc194 hF
      refine wp_seq ?_
      refine c_region ?_
      refine l_val E ok (y_move rfl) rfl rfl fun a E => ?_
      refine l_val E ok (y_lenR sl_56 h127 rfl) rfl rfl fun a E => ?_
      refine l_val E ok (y_assign rfl) rfl rfl fun a E => ?_
      refine wpList_nil ?_
      refine t_norm ?_
      refine c_region ?_
      refine l_val E ok (y_move rfl) rfl rfl fun a E => ?_
      refine l_val E ok (y_move rfl) rfl rfl fun a E => ?_
      refine l_val E ok (y_move rfl) rfl rfl fun a E => ?_
      obtain ⟨x195, e196, hF⟩ := bnd hF
      obtain ⟨b197, o198, es199, hl200, rr201, at202, yy203⟩ := idxAt sl_56 h12 e196 (P := Try.prog) (X := .tmp 55) (I := .tmp 56) (kd := .i64) (ev_of E rfl) (ev_of E rfl)
      obtain ⟨rfl, r204⟩ := rr201
      refine l_val E ok (yy203 _ _) rfl rfl fun a E => ?_
      refine l_val E ok (y_load one_3 rfl (Holds.ro at202)) rfl rfl fun a E => ?_
      refine l_slit (R := (pI .i64)) (xo := [.tmp 58]) (xs := ([x195] : List (Int))) E ok sl_56 zero_3 rfl ⟨⟨_, rfl, rfl, (pI_mk r204)⟩, trivial⟩ rfl rfl rfl rfl fun c205 M206 a w E ok h207 => ?_
      obtain ⟨l208, e209, hF⟩ := bnd hF
      refine l_app (R := (pI .i64)) E ok 6 (mI .i64) sl_56 Try.underlying56 rfl h127 (SrcOK.ofRow h207 0 rfl ok) e209 ⟨_, zero_3, rfl⟩ rfl rfl rfl rfl fun c210 M211 a w E ok h212 => ?_
      refine l_val E ok (y_move rfl) rfl rfl fun a E => ?_
      refine l_val E ok (y_move rfl) rfl rfl fun a E => ?_
      refine l_slit (R := (pI .i64)) (xo := [.tmp 62]) (xs := ([x158] : List (Int))) E ok sl_56 zero_3 rfl ⟨⟨_, rfl, rfl, (pI_mk r167)⟩, trivial⟩ rfl rfl rfl rfl fun c213 M214 a w E ok h215 => ?_
      obtain ⟨l216, e217, hF⟩ := bnd hF
      refine l_app (R := (pI .i64)) E ok 6 (mI .i64) sl_56 Try.underlying56 rfl h130 (SrcOK.ofRow h215 0 rfl ok) e217 ⟨_, zero_3, rfl⟩ rfl rfl rfl rfl fun c218 M219 a w E ok h220 => ?_
      refine l_val E ok (y_assign rfl) rfl rfl fun a E => ?_
      refine l_val E ok (y_assign rfl) rfl rfl fun a E => ?_
      refine wpList_nil ?_
      obtain rfl := Option.some.inj hF
      exact ⟨rfl, ⟨c210, M211, c218, M219, (ok.pk 10 [2, 3, 4, 5, 6, 7, 8, 9] rfl (by decide)), E.keep [1, 2, 3, 4, 5, 6, 7, 8, 9, 11], h212, h220, (ORow.InR h127)⟩⟩
  intro e a w _ hO
  obtain ⟨rfl, c236, M237, c239, M240, c242, M243, ok, E, h238, h241, h244⟩ := hO
  refine b_hit ?_
  refine t_norm ?_
  obtain ⟨o245, hJ, hF⟩ := bnd hF
  refine c_mono (Q' := fun e a w => e = .normal ∧ ∃ m246 c248 M249 c251 M252, m75.le m246 ∧ Ok u m246 (M252 :: M249 :: [(b29, Obj.cells [(Value.int .i64 o245.Start), c248, c251].toArray 25 (0, 0))] :: M240 :: M237 :: [(b7, Obj.cells [(Value.int .i64 0), (Value.slice none 0 0), (Value.slice none 0 0)].toArray 25 (0, 0))] :: [(b6, Obj.cells [(Value.int .i64 d_0.Start), c2, c4].toArray 25 (0, 0))] :: S) w ∧ Env 89 a [(1, (Value.pointer (some ⟨b6, 0, none⟩))), (2, (Value.pointer (some ⟨b7, 0, none⟩))), (3, c11), (4, c236), (5, c239), (6, (Value.pointer (some ⟨b29, 0, none⟩))), (7, (Value.int .i64 i_73))] ∧ InR .i64 o245.Start ∧ ORow 56 1 (pL 1 (pI .i64)) m246 c248 o245.Next M249 ∧ ORow 4 1 pB m246 c251 o245.Accept M252) ?_ ?_
  rotate_left
  · clear hJ
    intro e a w hO
    obtain ⟨rfl, m345, c347, M348, c350, M351, hle, ok, E, r346, h349, h352⟩ := hO
    have le_m0 := le_m0.trans hle
    have le_m10 := le_m10.trans hle
    have h3 := (mL (mL (mI .i64))).up hle h3
    have h5 := (mL mB).up hle h5
    have h12 := (mL (mI .i64)).up hle h12
    have at20 := At.up hle at20
    have h238 := ORow.up (mI .i64) hle h238
    have h241 := ORow.up (mI .i64) hle h241
    refine b_norm ?_
    refine t_norm ?_
    refine c_region ?_
    refine l_val E ok (y_move rfl) rfl rfl fun a E => ?_
    refine l_val E ok (y_add rfl rfl (InR.inc r82 (ORow.InR h78) hc90)) rfl rfl fun a E => ?_
    refine l_val E ok (y_assign rfl) rfl rfl fun a E => ?_
    refine wpList_nil ?_
    obtain rfl := Option.some.inj hF
    exact step_n ⟨m345, c236, M237, c239, M240, c347, M348, c350, M351, le_m10, ok, E.keep [1, 2, 3, 4, 5, 6, 7], h238, h241, (InR.inc r82 (ORow.InR h78) hc90), r346, h349, h352⟩
  replace hF := hJ
  clear hJ
  have le_m75 := Mem.le.refl m75
  obtain ⟨l259, e260, hF⟩ := bnd hF
  obtain ⟨x264, e265, hF⟩ := bnd hF
  obtain ⟨x275, e276, hF⟩ := bnd hF
  obtain ⟨l287, e288, hF⟩ := bnd hF
  obtain rfl := Option.some.inj hF
  refine k_begin [1, 6] (Cls u m75 ([(b29, Obj.cells [(Value.int .i64 x_74.Start), c84, c87].toArray 25 (0, 0))] :: M240 :: M237 :: [(b7, Obj.cells [(Value.int .i64 0), (Value.slice none 0 0), (Value.slice none 0 0)].toArray 25 (0, 0))] :: [(b6, Obj.cells [(Value.int .i64 d_0.Start), c2, c4].toArray 25 (0, 0))] :: [])) (Cls u m75 (M240 :: M237 :: [(b7, Obj.cells [(Value.int .i64 0), (Value.slice none 0 0), (Value.slice none 0 0)].toArray 25 (0, 0))] :: [(b6, Obj.cells [(Value.int .i64 d_0.Start), c2, c4].toArray 25 (0, 0))] :: [])) (by kernel_rfl) ?_
  intro w hw
  replace ok := okdrew ok hw
  clear hw
  have h3_o := h3
  have h5_o := h5
  refine k_next (cl1 ⟨m75, _, le_m75, ok, ⟨memAt 3 rfl, memAt 4 rfl, memAt 5 rfl, memAt 6 rfl, memAt 7 rfl, trivial⟩⟩ ⟨m75, _, le_m75, ok, ⟨memAt 4 rfl, memAt 5 rfl, memAt 6 rfl, memAt 7 rfl, trivial⟩⟩) fun hT => ?_
  refine k_take 0 E rfl (by kernel_rfl) nP hT (y_fieldAddr fo_25_1 rfl) rfl rfl fun a E => ?_
  refine k_takeN 1 E rfl (by kernel_rfl) nP hT (y_load one_22 rfl (Holds.cown 0 rfl rfl)) rfl rfl fun a E => ?_
  refine k_take 2 E rfl (by kernel_rfl) nP hT (y_move rfl) rfl rfl fun a E => ?_
  refine k_take 5 E rfl (by kernel_rfl) nP hT (y_fieldAddr fo_25_2 rfl) rfl rfl fun a E => ?_
  refine k_takeN 6 E rfl (by kernel_rfl) nP hT (y_load one_23 rfl (Holds.cown 0 rfl rfl)) rfl rfl fun a E => ?_
  refine k_take 7 E rfl (by kernel_rfl) nP hT (y_fieldAddr fo_25_2 rfl) rfl rfl fun a E => ?_
  refine k_take 8 E rfl (by kernel_rfl) nP hT (y_load one_23 rfl (Holds.cown 3 rfl rfl)) rfl rfl fun a E => ?_
  refine k_take 9 E rfl (by kernel_rfl) nP hT (y_move rfl) rfl rfl fun a E => ?_
  refine k_take 10 E rfl (by kernel_rfl) nP hT (y_move rfl) rfl rfl fun a E => ?_
  obtain ⟨b292, o293, hp294, yy295⟩ := orowAt sl_56 h241 e265 (P := Try.prog) (X := .tmp 78) (I := .tmp 79) (kd := .i64) (ev_of E rfl) (ev_of E rfl)
  refine k_take 11 E rfl (by kernel_rfl) nP hT (yy295 _ _) rfl rfl fun a E => ?_
  obtain ⟨es296, hl297, rr298, hh299⟩ := orowGet h241 e265 hp294 (by decide)
  obtain ⟨rfl, r300⟩ := rr298
  refine k_take 12 E rfl (by kernel_rfl) nP hT (y_load one_3 rfl (Holds.crow hh299 0 rfl)) rfl rfl fun a E => ?_
  obtain ⟨b301, o302, es303, hl304, rr305, at306, yy307⟩ := idxAt sl_23 h5 e276 (P := Try.prog) (X := .tmp 77) (I := .tmp 81) (kd := .i64) (ev_of E rfl) (ev_of E rfl)
  obtain rfl := rr305
  refine k_take 13 E rfl (by kernel_rfl) nP hT (yy307 _ _) rfl rfl fun a E => ?_
  refine k_take 14 E rfl (by kernel_rfl) nP hT (y_load one_4 rfl (Holds.cro at306)) rfl rfl fun a E => ?_
  refine k_all [3, 15] (by kernel_rfl) rfl (all_c ?_ (all_c ?_ (all_n)))
  rotate_left
  · refine wpOp_of_list (o := _) rfl ?_
    refine l_slit (R := pB) (xo := [.tmp 83]) (xs := ([x275] : List (Bool))) E ok sl_23 zero_4 rfl ⟨⟨_, rfl, rfl, pB_mk⟩, trivial⟩ rfl rfl rfl rfl fun c331 M332 a w E ok h333 => ?_
    refine wpList_nil ?_
    refine t_norm ?_
    refine k_next (cl1 ⟨m75, _, le_m75, ok, ⟨memAt 4 rfl, memAt 5 rfl, memAt 6 rfl, memAt 7 rfl, memAt 8 rfl, trivial⟩⟩ ⟨m75, _, le_m75, ok, ⟨memAt 5 rfl, memAt 6 rfl, memAt 7 rfl, memAt 8 rfl, trivial⟩⟩) fun hT => ?_
    refine k_all [3] (by kernel_rfl) rfl (one_c ?_)
    · refine wpOp_of_list (o := _) rfl ?_
      obtain ⟨m334, hle, ok, hfz⟩ := (ok.frs 1 rfl).freeze
      have h335 := ORow.froz (mI .i64) h244 hle hfz (by decide)
      have le_m0 := le_m0.trans hle
      have le_m10 := le_m10.trans hle
      have le_m75 := le_m75.trans hle
      have h3 := (mL (mL (mI .i64))).up hle h3
      have h5 := (mL mB).up hle h5
      have h12 := (mL (mI .i64)).up hle h12
      have at20 := At.up hle at20
      have h86 := ORow.up (mL (mI .i64)) hle h86
      have h89 := ORow.up mB hle h89
      have h238 := ORow.up (mI .i64) hle h238
      have h241 := ORow.up (mI .i64) hle h241
      have at306 := At.up hle at306
      have h333 := ORow.up mB hle h333
      refine l_slit (R := (pL 1 (pI .i64))) (xo := [.tmp 71]) (xs := ([o110.2.2] : List (List (Int)))) E ok sl_22 zero_56 rfl ⟨⟨_, (pL_cells h335), rfl, h335⟩, trivial⟩ rfl rfl rfl rfl fun c336 M337 a w E ok h338 => ?_
      refine wpList_nil ?_
      refine t_norm ?_
      refine k_next (cl1 ⟨m334, _, le_m75, ok, ⟨memAt 4 rfl, memAt 5 rfl, memAt 6 rfl, memAt 7 rfl, memAt 8 rfl, trivial⟩⟩ ⟨m334, _, le_m75, ok, ⟨memAt 5 rfl, memAt 6 rfl, memAt 7 rfl, memAt 8 rfl, trivial⟩⟩) fun hT => ?_
      refine k_all [4] (by kernel_rfl) rfl (one_c ?_)
      · refine wpOp_of_list (o := _) rfl ?_
        refine l_app (R := (pL 1 (pI .i64))) E ok 3 (mL (mI .i64)) sl_22 Try.underlying22 rfl h86 (SrcOK.ofRow h338 0 rfl ok) e260 ⟨_, zero_56, rfl⟩ rfl rfl rfl rfl fun c339 M340 a w E ok h341 => ?_
        refine wpList_nil ?_
        refine t_norm ?_
        refine k_next (cl1 ⟨m334, _, le_m75, ok, ⟨memAt 4 rfl, memAt 5 rfl, memAt 6 rfl, memAt 7 rfl, memAt 8 rfl, trivial⟩⟩ ⟨m334, _, le_m75, ok, ⟨memAt 5 rfl, memAt 6 rfl, memAt 7 rfl, memAt 8 rfl, trivial⟩⟩) fun hT => ?_
        refine k_take 17 E rfl (by kernel_rfl) nP hT (y_fieldAddr fo_25_1 rfl) rfl rfl fun a E => ?_
        refine k_all [16] (by kernel_rfl) rfl (one_c ?_)
        · refine wpOp_of_list (o := _) rfl ?_
          refine l_app (R := pB) E ok 2 mB sl_23 Try.underlying23 rfl h89 (SrcOK.ofRow h333 1 rfl ok) e288 ⟨_, zero_4, rfl⟩ rfl rfl rfl rfl fun c342 M343 a w E ok h344 => ?_
          refine wpList_nil ?_
          refine t_norm ?_
          refine k_next (cl1 ⟨m334, _, le_m75, ok, ⟨memAt 4 rfl, memAt 5 rfl, memAt 6 rfl, memAt 7 rfl, memAt 8 rfl, trivial⟩⟩ ⟨m334, _, le_m75, ok, ⟨memAt 5 rfl, memAt 6 rfl, memAt 7 rfl, memAt 8 rfl, trivial⟩⟩) fun hT => ?_
          refine k_all [18] (by kernel_rfl) rfl (one_c ?_)
          · refine wpOp_of_list (o := _) rfl ?_
            refine l_storeB E ok 4 rfl rfl rfl inf_22 (ORow.cells h341) rfl ⟨(ORow.one h341), trivial⟩ rfl rfl fun w ok => ?_
            refine wpList_nil ?_
            refine t_norm ?_
            refine k_next (cl2 (by kernel_rfl) ⟨m334, _, le_m75, ok, ⟨memAt 5 rfl, memAt 6 rfl, memAt 7 rfl, memAt 8 rfl, trivial⟩⟩) fun hT => ?_
            refine k_take 19 E rfl (by kernel_rfl) nP hT (y_fieldAddr fo_25_2 rfl) rfl rfl fun a E => ?_
            refine k_all [20] (by kernel_rfl) rfl (one_c ?_)
            · refine wpOp_of_list (o := _) rfl ?_
              refine l_storeB E ok 4 rfl rfl rfl inf_23 (ORow.cells h344) rfl ⟨(ORow.one h344), trivial⟩ rfl rfl fun w ok => ?_
              refine wpList_nil ?_
              refine t_norm ?_
              refine k_next (cl2 (by kernel_rfl) ⟨m334, _, le_m75, ok, ⟨memAt 5 rfl, memAt 6 rfl, memAt 7 rfl, memAt 8 rfl, trivial⟩⟩) fun hT => ?_
              refine k_done (by kernel_rfl) ?_
              exact ⟨rfl, ⟨m334, c339, M340, c342, M343, le_m75, (ok.pk 9 [2, 3, 4, 5, 6, 7, 8] rfl (by decide)), E.keep [1, 2, 3, 4, 5, 6, 7], r83, h341, h344⟩⟩
  refine wpOp_of_list (o := _) rfl ?_
  obtain ⟨m308, hle, ok, hfz⟩ := (ok.frs 0 rfl).freeze
  have h309 := ORow.froz (mI .i64) h244 hle hfz (by decide)
  have le_m0 := le_m0.trans hle
  have le_m10 := le_m10.trans hle
  have le_m75 := le_m75.trans hle
  have h3 := (mL (mL (mI .i64))).up hle h3
  have h5 := (mL mB).up hle h5
  have h12 := (mL (mI .i64)).up hle h12
  have at20 := At.up hle at20
  have h86 := ORow.up (mL (mI .i64)) hle h86
  have h89 := ORow.up mB hle h89
  have h238 := ORow.up (mI .i64) hle h238
  have h241 := ORow.up (mI .i64) hle h241
  have at306 := At.up hle at306
  refine l_slit (R := (pL 1 (pI .i64))) (xo := [.tmp 71]) (xs := ([o110.2.2] : List (List (Int)))) E ok sl_22 zero_56 rfl ⟨⟨_, (pL_cells h309), rfl, h309⟩, trivial⟩ rfl rfl rfl rfl fun c310 M311 a w E ok h312 => ?_
  refine wpList_nil ?_
  refine t_norm ?_
  refine k_next (cl1 ⟨m308, _, le_m75, ok, ⟨memAt 3 rfl, memAt 4 rfl, memAt 5 rfl, memAt 6 rfl, memAt 7 rfl, trivial⟩⟩ ⟨m308, _, le_m75, ok, ⟨memAt 4 rfl, memAt 5 rfl, memAt 6 rfl, memAt 7 rfl, trivial⟩⟩) fun hT => ?_
  refine k_all [4, 15] (by kernel_rfl) rfl (all_c ?_ (all_c ?_ (all_n)))
  · refine wpOp_of_list (o := _) rfl ?_
    refine l_app (R := (pL 1 (pI .i64))) E ok 2 (mL (mI .i64)) sl_22 Try.underlying22 rfl h86 (SrcOK.ofRow h312 0 rfl ok) e260 ⟨_, zero_56, rfl⟩ rfl rfl rfl rfl fun c313 M314 a w E ok h315 => ?_
    refine wpList_nil ?_
    refine t_norm ?_
    refine k_next (cl1 ⟨m308, _, le_m75, ok, ⟨memAt 3 rfl, memAt 4 rfl, memAt 5 rfl, memAt 6 rfl, memAt 7 rfl, trivial⟩⟩ ⟨m308, _, le_m75, ok, ⟨memAt 4 rfl, memAt 5 rfl, memAt 6 rfl, memAt 7 rfl, trivial⟩⟩) fun hT => ?_
    refine k_take 17 E rfl (by kernel_rfl) nP hT (y_fieldAddr fo_25_1 rfl) rfl rfl fun a E => ?_
    refine k_all [15] (by kernel_rfl) rfl (one_c ?_)
    · refine wpOp_of_list (o := _) rfl ?_
      refine l_slit (R := pB) (xo := [.tmp 83]) (xs := ([x275] : List (Bool))) E ok sl_23 zero_4 rfl ⟨⟨_, rfl, rfl, pB_mk⟩, trivial⟩ rfl rfl rfl rfl fun c316 M317 a w E ok h318 => ?_
      refine wpList_nil ?_
      refine t_norm ?_
      refine k_next (cl1 ⟨m308, _, le_m75, ok, ⟨memAt 4 rfl, memAt 5 rfl, memAt 6 rfl, memAt 7 rfl, memAt 8 rfl, trivial⟩⟩ ⟨m308, _, le_m75, ok, ⟨memAt 5 rfl, memAt 6 rfl, memAt 7 rfl, memAt 8 rfl, trivial⟩⟩) fun hT => ?_
      refine k_all [16] (by kernel_rfl) rfl (one_c ?_)
      · refine wpOp_of_list (o := _) rfl ?_
        refine l_app (R := pB) E ok 2 mB sl_23 Try.underlying23 rfl h89 (SrcOK.ofRow h318 0 rfl ok) e288 ⟨_, zero_4, rfl⟩ rfl rfl rfl rfl fun c319 M320 a w E ok h321 => ?_
        refine wpList_nil ?_
        refine t_norm ?_
        refine k_next (cl1 ⟨m308, _, le_m75, ok, ⟨memAt 4 rfl, memAt 5 rfl, memAt 6 rfl, memAt 7 rfl, memAt 8 rfl, trivial⟩⟩ ⟨m308, _, le_m75, ok, ⟨memAt 5 rfl, memAt 6 rfl, memAt 7 rfl, memAt 8 rfl, trivial⟩⟩) fun hT => ?_
        refine k_all [18] (by kernel_rfl) rfl (one_c ?_)
        · refine wpOp_of_list (o := _) rfl ?_
          refine l_storeB E ok 4 rfl rfl rfl inf_22 (ORow.cells h315) rfl ⟨(ORow.one h315), trivial⟩ rfl rfl fun w ok => ?_
          refine wpList_nil ?_
          refine t_norm ?_
          refine k_next (cl2 (by kernel_rfl) ⟨m308, _, le_m75, ok, ⟨memAt 5 rfl, memAt 6 rfl, memAt 7 rfl, memAt 8 rfl, trivial⟩⟩) fun hT => ?_
          refine k_take 19 E rfl (by kernel_rfl) nP hT (y_fieldAddr fo_25_2 rfl) rfl rfl fun a E => ?_
          refine k_all [20] (by kernel_rfl) rfl (one_c ?_)
          · refine wpOp_of_list (o := _) rfl ?_
            refine l_storeB E ok 4 rfl rfl rfl inf_23 (ORow.cells h321) rfl ⟨(ORow.one h321), trivial⟩ rfl rfl fun w ok => ?_
            refine wpList_nil ?_
            refine t_norm ?_
            refine k_next (cl2 (by kernel_rfl) ⟨m308, _, le_m75, ok, ⟨memAt 5 rfl, memAt 6 rfl, memAt 7 rfl, memAt 8 rfl, trivial⟩⟩) fun hT => ?_
            refine k_done (by kernel_rfl) ?_
            exact ⟨rfl, ⟨m308, c313, M314, c319, M320, le_m75, (ok.pk 9 [2, 3, 4, 5, 6, 7, 8] rfl (by decide)), E.keep [1, 2, 3, 4, 5, 6, 7], r83, h315, h321⟩⟩
  refine wpOp_of_list (o := _) rfl ?_
  refine l_slit (R := pB) (xo := [.tmp 83]) (xs := ([x275] : List (Bool))) E ok sl_23 zero_4 rfl ⟨⟨_, rfl, rfl, pB_mk⟩, trivial⟩ rfl rfl rfl rfl fun c322 M323 a w E ok h324 => ?_
  refine wpList_nil ?_
  refine t_norm ?_
  refine k_next (cl1 ⟨m308, _, le_m75, ok, ⟨memAt 4 rfl, memAt 5 rfl, memAt 6 rfl, memAt 7 rfl, memAt 8 rfl, trivial⟩⟩ ⟨m308, _, le_m75, ok, ⟨memAt 5 rfl, memAt 6 rfl, memAt 7 rfl, memAt 8 rfl, trivial⟩⟩) fun hT => ?_
  refine k_all [4] (by kernel_rfl) rfl (one_c ?_)
  · refine wpOp_of_list (o := _) rfl ?_
    refine l_app (R := (pL 1 (pI .i64))) E ok 3 (mL (mI .i64)) sl_22 Try.underlying22 rfl h86 (SrcOK.ofRow h312 1 rfl ok) e260 ⟨_, zero_56, rfl⟩ rfl rfl rfl rfl fun c325 M326 a w E ok h327 => ?_
    refine wpList_nil ?_
    refine t_norm ?_
    refine k_next (cl1 ⟨m308, _, le_m75, ok, ⟨memAt 4 rfl, memAt 5 rfl, memAt 6 rfl, memAt 7 rfl, memAt 8 rfl, trivial⟩⟩ ⟨m308, _, le_m75, ok, ⟨memAt 5 rfl, memAt 6 rfl, memAt 7 rfl, memAt 8 rfl, trivial⟩⟩) fun hT => ?_
    refine k_take 17 E rfl (by kernel_rfl) nP hT (y_fieldAddr fo_25_1 rfl) rfl rfl fun a E => ?_
    refine k_all [16] (by kernel_rfl) rfl (one_c ?_)
    · refine wpOp_of_list (o := _) rfl ?_
      refine l_app (R := pB) E ok 2 mB sl_23 Try.underlying23 rfl h89 (SrcOK.ofRow h324 0 rfl ok) e288 ⟨_, zero_4, rfl⟩ rfl rfl rfl rfl fun c328 M329 a w E ok h330 => ?_
      refine wpList_nil ?_
      refine t_norm ?_
      refine k_next (cl1 ⟨m308, _, le_m75, ok, ⟨memAt 4 rfl, memAt 5 rfl, memAt 6 rfl, memAt 7 rfl, memAt 8 rfl, trivial⟩⟩ ⟨m308, _, le_m75, ok, ⟨memAt 5 rfl, memAt 6 rfl, memAt 7 rfl, memAt 8 rfl, trivial⟩⟩) fun hT => ?_
      refine k_all [18] (by kernel_rfl) rfl (one_c ?_)
      · refine wpOp_of_list (o := _) rfl ?_
        refine l_storeB E ok 4 rfl rfl rfl inf_22 (ORow.cells h327) rfl ⟨(ORow.one h327), trivial⟩ rfl rfl fun w ok => ?_
        refine wpList_nil ?_
        refine t_norm ?_
        refine k_next (cl2 (by kernel_rfl) ⟨m308, _, le_m75, ok, ⟨memAt 5 rfl, memAt 6 rfl, memAt 7 rfl, memAt 8 rfl, trivial⟩⟩) fun hT => ?_
        refine k_take 19 E rfl (by kernel_rfl) nP hT (y_fieldAddr fo_25_2 rfl) rfl rfl fun a E => ?_
        refine k_all [20] (by kernel_rfl) rfl (one_c ?_)
        · refine wpOp_of_list (o := _) rfl ?_
          refine l_storeB E ok 4 rfl rfl rfl inf_23 (ORow.cells h330) rfl ⟨(ORow.one h330), trivial⟩ rfl rfl fun w ok => ?_
          refine wpList_nil ?_
          refine t_norm ?_
          refine k_next (cl2 (by kernel_rfl) ⟨m308, _, le_m75, ok, ⟨memAt 5 rfl, memAt 6 rfl, memAt 7 rfl, memAt 8 rfl, trivial⟩⟩) fun hT => ?_
          refine k_done (by kernel_rfl) ?_
          exact ⟨rfl, ⟨m308, c325, M326, c328, M329, le_m75, (ok.pk 9 [2, 3, 4, 5, 6, 7, 8] rfl (by decide)), E.keep [1, 2, 3, 4, 5, 6, 7], r83, h327, h330⟩⟩

def calqueref09_Minimal_R (u : World) (m0 : Mem) (S : Segs) (r : DFA × Int) (a : Act) (w : World) : Prop :=
  ∃ m1 v0, m0.le m1 ∧ Ok u m1 S w ∧ a.defers = [] ∧ RVs Try.prog a w [.c 2 25 (.agg v0.toArray), .t 3 (.int .i64 r.2)] ∧ pDFA m1 v0 r.1 ∧ InR .i64 r.2
set_option maxHeartbeats 4000000 in
set_option maxRecDepth 100000 in
theorem calqueref09_Minimal_w {u : World} {m0 : Mem} {S : Segs} {w : World} (N : Nat) (vd_0 : List Value) (d_0 : DFA) (hd_0 : pDFA m0 vd_0 d_0) {r : DFA × Int} (hF : calqueref09_Minimal N d_0 = some r) (ok : Ok u m0 S w) :
    Calls Try.prog 22 [.agg vd_0.toArray].toArray w fun e w' => ∃ m1 v0, e = .returned (.tuple [(.agg v0.toArray), (.int .i64 r.2)].toArray) ∧ m0.le m1 ∧ Ok u m1 S w' ∧ pDFA m1 v0 r.1 ∧ InR .i64 r.2 := by
  obtain ⟨c2, c4, rfl, r1, h3, h5⟩ := hd_0
  have le_m0 := Mem.le.refl m0
  unfold calqueref09_Minimal at hF
  have fin : ∀ a w, calqueref09_Minimal_R u m0 S r a w → bodyPost Try.prog Try.f22 (fun e w' => ∃ m1 v0, e = .returned (.tuple [(.agg v0.toArray), (.int .i64 r.2)].toArray) ∧ m0.le m1 ∧ Ok u m1 S w' ∧ pDFA m1 v0 r.1 ∧ InR .i64 r.2) .ret a w := by
    intro a w h
    obtain ⟨m1, v0, hle, ok, hd, hrv, h0, h1⟩ := h
    exact c_ret2 [.c 2 25 (.agg v0.toArray), .t 3 (.int .i64 r.2)] hd rfl hrv ⟨m1, v0, rfl, hle, ok, h0, h1⟩
  refine enter Try.func22 rfl rfl rfl fun a E => ?_
  refine wp_seq ?_
  refine c_region ?_
  refine l_box E ok rfl rfl rfl fun b6 a w E ok => ?_
  refine l_alloc E ok zero_25 rfl rfl fun b7 a w E ok => ?_
  refine l_val E ok (y_assign rfl) rfl rfl fun a E => ?_
  refine wpList_nil ?_
  refine t_norm ?_
  refine wp_seq ?_
  refine wp_seq ?_
  refine c_region ?_
  refine l_val E ok (y_loadAgg (cs := [(Value.int .i64 d_0.Start), c2, c4]) agg_25 rfl rfl (Holds.own 1 rfl rfl)) rfl rfl fun a E => ?_
  obtain ⟨r8, e9, hF⟩ := bnd hF
  refine l_call E go_15 rfl (calqueref09_Valid_w N _ d_0 ⟨_, _, rfl, r1, h3, h5⟩ e9 ok) rfl rfl ?_
  rintro _ w ⟨rfl, ok⟩
  refine ⟨_, rfl, fun a E => ?_⟩
  refine l_val E ok (y_not rfl) rfl rfl fun a E => ?_
  refine wpList_nil ?_
  refine t_norm ?_
  refine c_if E rfl (fun hc10 => ?_) (fun hc10 => ?_)
  · replace hF := cond_t hc10 hF
    refine wp_seq ?_
    refine c_region ?_
    refine l_val E ok (y_build (ps := []) (qs := []) (cs := [(Value.int .i64 0), (Value.slice none 0 0), (Value.slice none 0 0)]) zero_25 places_25 rfl trivial rfl) rfl rfl fun a E => ?_
    refine l_storeB E ok 0 rfl rfl rfl inf_25 rfl rfl ⟨rfl, rfl, rfl, trivial⟩ rfl rfl fun w ok => ?_
    refine l_val E ok (y_assign rfl) rfl rfl fun a E => ?_
    refine wpList_nil ?_
    refine t_norm ?_
    refine wp_ret ?_
    refine t_ret ?_
    have hret : calqueref09_Minimal_R u m0 S ((DFA.mk 0 ([]) ([])), 1) a w := ⟨m0, [(Value.int .i64 0), (Value.slice none 0 0), (Value.slice none 0 0)], le_m0, ok.drop.drop, E.d, ⟨rv_c (cs := [(Value.int .i64 0), (Value.slice none 0 0), (Value.slice none 0 0)]) E ok rfl agg_25 rfl (Holds.own 0 rfl rfl), rv_t E rfl, trivial⟩, ⟨_, _, rfl, (show InR .i64 0 by decide), pL_nil, pL_nil⟩, (show InR .i64 (1) by decide)⟩
    obtain rfl := Option.some.inj hF
    exact fin _ _ hret
  replace hF := cond_f hc10 hF
  refine wp_skip ?_
  refine t_norm ?_
  refine wp_seq ?_
  refine c_region ?_
  refine l_val E ok (y_loadAgg (cs := [(Value.int .i64 d_0.Start), c2, c4]) agg_25 rfl rfl (Holds.own 1 rfl rfl)) rfl rfl fun a E => ?_
  obtain ⟨r11, e12, hF⟩ := bnd hF
  refine l_call E go_42 rfl (calqueref09_minimal_w N _ d_0 ⟨_, _, rfl, r1, h3, h5⟩ e12 ok) rfl rfl ?_
  rintro _ w ⟨m13, vs14, rfl, hle, ok, h15⟩
  have le_m0 := le_m0.trans hle
  have h3 := (mL (mL (mI .i64))).up hle h3
  have h5 := (mL mB).up hle h5
  obtain ⟨c17, c19, rfl, r16, h18, h20⟩ := h15
  refine ⟨_, rfl, fun a E => ?_⟩
  refine l_storeB E ok 0 rfl rfl rfl inf_25 rfl rfl ⟨rfl, (pL_one h18), (pL_one h20), trivial⟩ rfl rfl fun w ok => ?_
  refine l_val E ok (y_assign rfl) rfl rfl fun a E => ?_
  refine wpList_nil ?_
  refine t_norm ?_
  refine wp_ret ?_
  have hret : calqueref09_Minimal_R u m0 S (r11, 0) a w := ⟨m13, [(Value.int .i64 r11.Start), c17, c19], le_m0, ok.drop.drop, E.d, ⟨rv_c (cs := [(Value.int .i64 r11.Start), c17, c19]) E ok rfl agg_25 rfl (Holds.own 0 rfl rfl), rv_t E rfl, trivial⟩, ⟨_, _, rfl, r16, h18, h20⟩, (show InR .i64 (0) by decide)⟩
  obtain rfl := Option.some.inj hF
  exact fin _ _ hret

def calqueref09_Same_R (u : World) (m0 : Mem) (S : Segs) (r : Bool × Int) (a : Act) (w : World) : Prop :=
  Ok u m0 S w ∧ a.defers = [] ∧ RVs Try.prog a w [.t 4 (.bool r.1), .t 5 (.int .i64 r.2)] ∧ InR .i64 r.2
set_option maxHeartbeats 4000000 in
set_option maxRecDepth 100000 in
theorem calqueref09_Same_w {u : World} {m0 : Mem} {S : Segs} {w : World} (N : Nat) (va_0 : List Value) (a_0 : DFA) (ha_0 : pDFA m0 va_0 a_0) (vb_1 : List Value) (b_1 : DFA) (hb_1 : pDFA m0 vb_1 b_1) {r : Bool × Int} (hF : calqueref09_Same N a_0 b_1 = some r) (ok : Ok u m0 S w) :
    Calls Try.prog 29 [.agg va_0.toArray, .agg vb_1.toArray].toArray w fun e w' => (e = .returned (.tuple [(.bool r.1), (.int .i64 r.2)].toArray) ∧ Ok u m0 S w') ∧ InR .i64 r.2 := by
  obtain ⟨c2, c4, rfl, r1, h3, h5⟩ := ha_0
  obtain ⟨c7, c9, rfl, r6, h8, h10⟩ := hb_1
  have le_m0 := Mem.le.refl m0
  unfold calqueref09_Same at hF
  have fin : ∀ a w, calqueref09_Same_R u m0 S r a w → bodyPost Try.prog Try.f29 (fun e w' => (e = .returned (.tuple [(.bool r.1), (.int .i64 r.2)].toArray) ∧ Ok u m0 S w') ∧ InR .i64 r.2) .ret a w := by
    intro a w h
    obtain ⟨ok, hd, hrv, h0⟩ := h
    exact c_ret2 [.t 4 (.bool r.1), .t 5 (.int .i64 r.2)] hd rfl hrv ⟨⟨rfl, ok⟩, h0⟩
  refine enter Try.func29 rfl rfl rfl fun a E => ?_
  refine wp_seq ?_
  refine c_region ?_
  refine l_box E ok rfl rfl rfl fun b11 a w E ok => ?_
  refine l_box E ok rfl rfl rfl fun b12 a w E ok => ?_
  refine l_val E ok (y_assign rfl) rfl rfl fun a E => ?_
  refine l_val E ok (y_assign rfl) rfl rfl fun a E => ?_
  refine wpList_nil ?_
  refine t_norm ?_
  refine wp_seq ?_
  refine wp_seq ?_
  refine c_region ?_
  refine l_val E ok (y_loadAgg (cs := [(Value.int .i64 a_0.Start), c2, c4]) agg_25 rfl rfl (Holds.own 1 rfl rfl)) rfl rfl fun a E => ?_
  obtain ⟨r13, e14, hF⟩ := bnd hF
  refine l_call E go_15 rfl (calqueref09_Valid_w N _ a_0 ⟨_, _, rfl, r1, h3, h5⟩ e14 ok) rfl rfl ?_
  rintro _ w ⟨rfl, ok⟩
  refine ⟨_, rfl, fun a E => ?_⟩
  refine l_val E ok (y_not rfl) rfl rfl fun a E => ?_
  refine l_val E ok (y_move rfl) rfl rfl fun a E => ?_
  refine bsplit (!r13) (fun hc15 => ?_) (fun hc15 => ?_)
  · replace hF := cond_t hc15 hF
    replace E := E.upd 9 hc15 rfl
    refine l_skip E rfl rfl fun a E => ?_
    refine l_skip E rfl rfl fun a E => ?_
    refine l_skip E rfl rfl fun a E => ?_
    refine l_val E ok (y_pickT rfl rfl) rfl rfl fun a E => ?_
    refine wpList_nil ?_
    refine t_norm ?_
    refine c_if E rfl (fun _ => ?_) (fun h => by cases h)
    refine wp_seq ?_
    refine c_region ?_
    refine l_val E ok (y_assign rfl) rfl rfl fun a E => ?_
    refine l_val E ok (y_assign rfl) rfl rfl fun a E => ?_
    refine wpList_nil ?_
    refine t_norm ?_
    refine wp_ret ?_
    refine t_ret ?_
    have hret : calqueref09_Same_R u m0 S (false, 1) a w := ⟨ok.drop.drop, E.d, ⟨rv_t E rfl, rv_t E rfl, trivial⟩, (show InR .i64 (1) by decide)⟩
    obtain rfl := Option.some.inj hF
    exact fin _ _ hret
  replace hF := cond_f hc15 hF
  replace E := E.upd 9 hc15 rfl
  refine l_val E ok (y_loadAgg (cs := [(Value.int .i64 b_1.Start), c7, c9]) agg_25 rfl rfl (Holds.own 0 rfl rfl)) rfl rfl fun a E => ?_
  obtain ⟨r16, e17, hF⟩ := bnd hF
  refine l_call E go_15 rfl (calqueref09_Valid_w N _ b_1 ⟨_, _, rfl, r6, h8, h10⟩ e17 ok) rfl rfl ?_
  rintro _ w ⟨rfl, ok⟩
  refine ⟨_, rfl, fun a E => ?_⟩
  refine l_val E ok (y_not rfl) rfl rfl fun a E => ?_
  refine l_val E ok (y_pickF rfl rfl) rfl rfl fun a E => ?_
  refine wpList_nil ?_
  refine t_norm ?_
  refine c_if E rfl (fun hc18 => ?_) (fun hc18 => ?_)
  · replace hF := cond_t hc18 hF
    refine wp_seq ?_
    refine c_region ?_
    refine l_val E ok (y_assign rfl) rfl rfl fun a E => ?_
    refine l_val E ok (y_assign rfl) rfl rfl fun a E => ?_
    refine wpList_nil ?_
    refine t_norm ?_
    refine wp_ret ?_
    refine t_ret ?_
    have hret : calqueref09_Same_R u m0 S (false, 1) a w := ⟨ok.drop.drop, E.d, ⟨rv_t E rfl, rv_t E rfl, trivial⟩, (show InR .i64 (1) by decide)⟩
    obtain rfl := Option.some.inj hF
    exact fin _ _ hret
  replace hF := cond_f hc18 hF
  refine wp_skip ?_
  refine t_norm ?_
  refine wp_seq ?_
  obtain ⟨o19, hJ, hF⟩ := bnd hF
  refine c_mono (Q' := fun e a w => e = .normal ∧ ∃ m20, m0.le m20 ∧ Ok u m20 ([(b12, Obj.cells [(Value.int .i64 b_1.Start), c7, c9].toArray 25 (0, 0))] :: [(b11, Obj.cells [(Value.int .i64 a_0.Start), c2, c4].toArray 25 (0, 0))] :: S) w ∧ Env 19 a [(4, (Value.bool o19)), (5, (Value.int .i64 0))]) ?_ ?_
  rotate_left
  · clear hJ
    intro e a w hO
    obtain ⟨rfl, m59, hle, ok, E⟩ := hO
    have le_m0 := le_m0.trans hle
    have h3 := (mL (mL (mI .i64))).up hle h3
    have h5 := (mL mB).up hle h5
    have h8 := (mL (mL (mI .i64))).up hle h8
    have h10 := (mL mB).up hle h10
    refine t_norm ?_
    refine wp_ret ?_
    have hret : calqueref09_Same_R u m0 S (o19, 0) a w := ⟨(ok.drop.drop).down le_m0, E.d, ⟨rv_t E rfl, rv_t E rfl, trivial⟩, (show InR .i64 (0) by decide)⟩
    obtain rfl := Option.some.inj hF
    exact fin _ _ hret
  replace hF := hJ
  clear hJ
  obtain ⟨r21, e22, hF⟩ := bnd hF
  obtain ⟨r31, e32, hF⟩ := bnd hF
  obtain ⟨r41, e42, hF⟩ := bnd hF
  obtain rfl := Option.some.inj hF
  refine k_begin [] (Cls u m0 ([(b12, Obj.cells [(Value.int .i64 b_1.Start), c7, c9].toArray 25 (0, 0))] :: [(b11, Obj.cells [(Value.int .i64 a_0.Start), c2, c4].toArray 25 (0, 0))] :: [])) (Cls u m0 ([(b12, Obj.cells [(Value.int .i64 b_1.Start), c7, c9].toArray 25 (0, 0))] :: [(b11, Obj.cells [(Value.int .i64 a_0.Start), c2, c4].toArray 25 (0, 0))] :: [])) (by kernel_rfl) ?_
  intro w hw
  replace ok := okdrew ok hw
  clear hw
  have h10_o := h10
  have h3_o := h3
  have h5_o := h5
  have h8_o := h8
  refine k_next (cl1 ⟨m0, _, le_m0, ok, ⟨memAt 0 rfl, memAt 1 rfl, trivial⟩⟩ ⟨m0, _, le_m0, ok, ⟨memAt 0 rfl, memAt 1 rfl, trivial⟩⟩) fun hT => ?_
  refine k_take 0 E rfl (by kernel_rfl) nP hT (y_loadAgg (cs := [(Value.int .i64 a_0.Start), c2, c4]) agg_25 rfl rfl (Holds.cown 1 rfl rfl)) rfl rfl fun a E => ?_
  refine k_take 2 E rfl (by kernel_rfl) nP hT (y_loadAgg (cs := [(Value.int .i64 b_1.Start), c7, c9]) agg_25 rfl rfl (Holds.cown 0 rfl rfl)) rfl rfl fun a E => ?_
  refine k_all [1] (by kernel_rfl) rfl (one_c ?_)
  · refine wpOp_of_list (o := _) rfl ?_
    refine l_call E go_42 rfl (calqueref09_minimal_w N _ a_0 ⟨_, _, rfl, r1, h3, h5⟩ e22 ok) rfl rfl ?_
    rintro _ w ⟨m43, vs44, rfl, hle, ok, h45⟩
    have le_m0 := le_m0.trans hle
    have h3 := (mL (mL (mI .i64))).up hle h3
    have h5 := (mL mB).up hle h5
    have h8 := (mL (mL (mI .i64))).up hle h8
    have h10 := (mL mB).up hle h10
    obtain ⟨c47, c49, rfl, r46, h48, h50⟩ := h45
    refine ⟨_, rfl, fun a E => ?_⟩
    refine wpList_nil ?_
    refine t_norm ?_
    refine k_next (cl1 ⟨m43, _, le_m0, ok, ⟨memAt 0 rfl, memAt 1 rfl, trivial⟩⟩ ⟨m43, _, le_m0, ok, ⟨memAt 0 rfl, memAt 1 rfl, trivial⟩⟩) fun hT => ?_
    refine k_all [3] (by kernel_rfl) rfl (one_c ?_)
    · refine wpOp_of_list (o := _) rfl ?_
      refine l_call E go_42 rfl (calqueref09_minimal_w N _ b_1 ⟨_, _, rfl, r6, h8, h10⟩ e32 ok) rfl rfl ?_
      rintro _ w ⟨m51, vs52, rfl, hle, ok, h53⟩
      have le_m0 := le_m0.trans hle
      have h3 := (mL (mL (mI .i64))).up hle h3
      have h5 := (mL mB).up hle h5
      have h8 := (mL (mL (mI .i64))).up hle h8
      have h10 := (mL mB).up hle h10
      have h48 := (mL (mL (mI .i64))).up hle h48
      have h50 := (mL mB).up hle h50
      obtain ⟨c55, c57, rfl, r54, h56, h58⟩ := h53
      refine ⟨_, rfl, fun a E => ?_⟩
      refine wpList_nil ?_
      refine t_norm ?_
      refine k_next (cl1 ⟨m51, _, le_m0, ok, ⟨memAt 0 rfl, memAt 1 rfl, trivial⟩⟩ ⟨m51, _, le_m0, ok, ⟨memAt 0 rfl, memAt 1 rfl, trivial⟩⟩) fun hT => ?_
      refine k_all [4] (by kernel_rfl) rfl (one_c ?_)
      · refine wpOp_of_list (o := _) rfl ?_
        refine l_call E go_23 rfl (calqueref09_Equal_w N _ r21 ⟨_, _, rfl, r46, h48, h50⟩ _ r31 ⟨_, _, rfl, r54, h56, h58⟩ e42 ok) rfl rfl ?_
        rintro _ w ⟨rfl, ok⟩
        refine ⟨_, rfl, fun a E => ?_⟩
        refine wpList_nil ?_
        refine t_norm ?_
        refine k_next (cl1 ⟨m51, _, le_m0, ok, ⟨memAt 0 rfl, memAt 1 rfl, trivial⟩⟩ ⟨m51, _, le_m0, ok, ⟨memAt 0 rfl, memAt 1 rfl, trivial⟩⟩) fun hT => ?_
        refine k_take 5 E rfl (by kernel_rfl) nP hT (y_assign rfl) rfl rfl fun a E => ?_
        refine k_take 6 E rfl (by kernel_rfl) nP hT (y_assign rfl) rfl rfl fun a E => ?_
        refine k_done (by kernel_rfl) ?_
        exact ⟨rfl, ⟨m51, le_m0, ok, E.keep [4, 5]⟩⟩

def calquelaw09_AutomatonMinimal_R (u : World) (m0 : Mem) (S : Segs) (r : Bool) (a : Act) (w : World) : Prop :=
  Ok u m0 S w ∧ a.defers = [] ∧ RVs Try.prog a w [.t 4 (.bool r)]
set_option maxHeartbeats 4000000 in
set_option maxRecDepth 100000 in
theorem calquelaw09_AutomatonMinimal_w {u : World} {m0 : Mem} {S : Segs} {w : World} (N : Nat) (vd_0 : List Value) (d_0 : DFA) (hd_0 : pDFA m0 vd_0 d_0) (word_1 : List UInt8) (lword_1 : word_1.length ≤ LIMS) {r : Bool} (hF : calquelaw09_AutomatonMinimal N d_0 word_1 = some r) (ok : Ok u m0 S w) :
    Calls Try.prog 5 [.agg vd_0.toArray, Value.string (bs word_1)].toArray w fun e w' => (e = .returned (.bool r) ∧ Ok u m0 S w') := by
  obtain ⟨c2, c4, rfl, r1, h3, h5⟩ := hd_0
  have le_m0 := Mem.le.refl m0
  unfold calquelaw09_AutomatonMinimal at hF
  have fin : ∀ a w, calquelaw09_AutomatonMinimal_R u m0 S r a w → bodyPost Try.prog Try.f5 (fun e w' => (e = .returned (.bool r) ∧ Ok u m0 S w')) .ret a w := by
    intro a w h
    obtain ⟨ok, hd, hrv⟩ := h
    exact c_ret2 [.t 4 (.bool r)] hd rfl hrv ⟨rfl, ok⟩
  refine enter Try.func5 rfl rfl rfl fun a E => ?_
  refine wp_seq ?_
  refine c_region ?_
  refine l_box E ok rfl rfl rfl fun b6 a w E ok => ?_
  refine l_val E ok (y_assign rfl) rfl rfl fun a E => ?_
  refine wpList_nil ?_
  refine t_norm ?_
  refine wp_seq ?_
  refine wp_seq ?_
  refine c_region ?_
  obtain ⟨r7, e8, hF⟩ := bnd hF
  refine l_call E go_11 rfl (calquelaw09_awake_w N  e8 ok) rfl rfl ?_
  rintro _ w ⟨rfl, ok⟩
  refine ⟨_, rfl, fun a E => ?_⟩
  refine l_val E ok (y_not rfl) rfl rfl fun a E => ?_
  refine l_val E ok (y_move rfl) rfl rfl fun a E => ?_
  refine bsplit (!r7) (fun hc9 => ?_) (fun hc9 => ?_)
  · replace hF := cond_t hc9 hF
    replace E := E.upd 13 hc9 rfl
    refine l_skip E rfl rfl fun a E => ?_
    refine l_skip E rfl rfl fun a E => ?_
    refine l_skip E rfl rfl fun a E => ?_
    refine l_val E ok (y_pickT rfl rfl) rfl rfl fun a E => ?_
    refine l_val E ok (y_move rfl) rfl rfl fun a E => ?_
    refine l_skip E rfl rfl fun a E => ?_
    refine l_skip E rfl rfl fun a E => ?_
    refine l_skip E rfl rfl fun a E => ?_
    refine l_val E ok (y_pickT rfl rfl) rfl rfl fun a E => ?_
    refine wpList_nil ?_
    refine t_norm ?_
    refine c_if E rfl (fun _ => ?_) (fun h => by cases h)
    refine wp_seq ?_
    refine c_region ?_
    obtain ⟨r10, e11, hF⟩ := bnd hF
    refine l_call E go_11 rfl (calquelaw09_awake_w N  e11 ok) rfl rfl ?_
    rintro _ w ⟨rfl, ok⟩
    refine ⟨_, rfl, fun a E => ?_⟩
    refine l_val E ok (y_assign rfl) rfl rfl fun a E => ?_
    refine wpList_nil ?_
    refine t_norm ?_
    refine wp_ret ?_
    refine t_ret ?_
    have hret : calquelaw09_AutomatonMinimal_R u m0 S r10 a w := ⟨ok.drop, E.d, ⟨rv_t E rfl, trivial⟩⟩
    obtain rfl := Option.some.inj hF
    exact fin _ _ hret
  replace hF := cond_f hc9 hF
  replace E := E.upd 13 hc9 rfl
  refine l_val E ok (y_loadAgg (cs := [(Value.int .i64 d_0.Start), c2, c4]) agg_25 rfl rfl (Holds.own 0 rfl rfl)) rfl rfl fun a E => ?_
  obtain ⟨r12, e13, hF⟩ := bnd hF
  refine l_call E go_12 rfl (calqueref09_Few_w N _ d_0 ⟨_, _, rfl, r1, h3, h5⟩ 40 (show InR .i64 (40) by decide) e13 ok) rfl rfl ?_
  rintro _ w ⟨rfl, ok⟩
  refine ⟨_, rfl, fun a E => ?_⟩
  refine l_val E ok (y_not rfl) rfl rfl fun a E => ?_
  refine l_val E ok (y_pickF rfl rfl) rfl rfl fun a E => ?_
  refine l_val E ok (y_move rfl) rfl rfl fun a E => ?_
  refine bsplit (!r12) (fun hc14 => ?_) (fun hc14 => ?_)
  · replace hF := cond_t hc14 hF
    replace E := E.upd 18 hc14 rfl
    refine l_skip E rfl rfl fun a E => ?_
    refine l_skip E rfl rfl fun a E => ?_
    refine l_skip E rfl rfl fun a E => ?_
    refine l_val E ok (y_pickT rfl rfl) rfl rfl fun a E => ?_
    refine wpList_nil ?_
    refine t_norm ?_
    refine c_if E rfl (fun _ => ?_) (fun h => by cases h)
    refine wp_seq ?_
    refine c_region ?_
    obtain ⟨r15, e16, hF⟩ := bnd hF
    refine l_call E go_11 rfl (calquelaw09_awake_w N  e16 ok) rfl rfl ?_
    rintro _ w ⟨rfl, ok⟩
    refine ⟨_, rfl, fun a E => ?_⟩
    refine l_val E ok (y_assign rfl) rfl rfl fun a E => ?_
    refine wpList_nil ?_
    refine t_norm ?_
    refine wp_ret ?_
    refine t_ret ?_
    have hret : calquelaw09_AutomatonMinimal_R u m0 S r15 a w := ⟨ok.drop, E.d, ⟨rv_t E rfl, trivial⟩⟩
    obtain rfl := Option.some.inj hF
    exact fin _ _ hret
  replace hF := cond_f hc14 hF
  replace E := E.upd 18 hc14 rfl
  refine l_val E ok (y_move rfl) rfl rfl fun a E => ?_
  refine l_val E ok (y_slen Try.underlying9 rfl) rfl rfl fun a E => ?_
  refine l_val E ok (y_gtr rfl rfl) rfl rfl fun a E => ?_
  refine l_val E ok (y_pickF rfl rfl) rfl rfl fun a E => ?_
  refine wpList_nil ?_
  refine t_norm ?_
  refine c_if E rfl (fun hc17 => ?_) (fun hc17 => ?_)
  · replace hF := cond_t hc17 hF
    refine wp_seq ?_
    refine c_region ?_
    obtain ⟨r18, e19, hF⟩ := bnd hF
    refine l_call E go_11 rfl (calquelaw09_awake_w N  e19 ok) rfl rfl ?_
    rintro _ w ⟨rfl, ok⟩
    refine ⟨_, rfl, fun a E => ?_⟩
    refine l_val E ok (y_assign rfl) rfl rfl fun a E => ?_
    refine wpList_nil ?_
    refine t_norm ?_
    refine wp_ret ?_
    refine t_ret ?_
    have hret : calquelaw09_AutomatonMinimal_R u m0 S r18 a w := ⟨ok.drop, E.d, ⟨rv_t E rfl, trivial⟩⟩
    obtain rfl := Option.some.inj hF
    exact fin _ _ hret
  replace hF := cond_f hc17 hF
  refine wp_skip ?_
  refine t_norm ?_
  refine wp_seq ?_
  refine c_region ?_
  refine l_val E ok (y_loadAgg (cs := [(Value.int .i64 d_0.Start), c2, c4]) agg_25 rfl rfl (Holds.own 0 rfl rfl)) rfl rfl fun a E => ?_
  obtain ⟨r20, e21, hF⟩ := bnd hF
  refine l_call E go_14 rfl (calquelaw09_to_w N _ d_0 ⟨_, _, rfl, r1, h3, h5⟩ e21 ok) rfl rfl ?_
  rintro _ w ⟨rfl, ok⟩
  refine ⟨_, rfl, fun a E => ?_⟩
  obtain ⟨r22, e23, hF⟩ := bnd hF
  refine l_call E go_21 rfl (automaton_Minimal_w N _ d_0 ⟨_, _, rfl, r1, h3, h5⟩ e23 ok) rfl rfl ?_
  rintro _ w ⟨m24, vs25, rfl, hle, ok, h26, r27⟩
  have le_m0 := le_m0.trans hle
  have h3 := (mL (mL (mI .i64))).up hle h3
  have h5 := (mL mB).up hle h5
  obtain ⟨c29, c31, rfl, r28, h30, h32⟩ := h26
  refine ⟨_, rfl, fun a E => ?_⟩
  refine l_val E ok (y_move rfl) rfl rfl fun a E => ?_
  refine l_val E ok (y_extract rfl rfl) rfl rfl fun a E => ?_
  refine l_val E ok (y_extract rfl rfl) rfl rfl fun a E => ?_
  refine l_alloc E ok zero_29 rfl rfl fun b33 a w E ok => ?_
  refine l_storeB E ok 0 rfl rfl rfl inf_29 rfl rfl ⟨rfl, (pL_one h30), (pL_one h32), trivial⟩ rfl rfl fun w ok => ?_
  refine l_val E ok (y_assign rfl) rfl rfl fun a E => ?_
  refine wpList_nil ?_
  refine t_norm ?_
  refine wp_seq ?_
  refine c_region ?_
  refine l_val E ok (y_loadAgg (cs := [(Value.int .i64 d_0.Start), c2, c4]) agg_25 rfl rfl (Holds.own 1 rfl rfl)) rfl rfl fun a E => ?_
  obtain ⟨r34, e35, hF⟩ := bnd hF
  refine l_call E go_22 rfl (calqueref09_Minimal_w N _ d_0 ⟨_, _, rfl, r1, h3, h5⟩ e35 ok) rfl rfl ?_
  rintro _ w ⟨m36, vs37, rfl, hle, ok, h38, r39⟩
  have le_m0 := le_m0.trans hle
  have h3 := (mL (mL (mI .i64))).up hle h3
  have h5 := (mL mB).up hle h5
  have h30 := (mL (mL (mI .i64))).up hle h30
  have h32 := (mL mB).up hle h32
  obtain ⟨c41, c43, rfl, r40, h42, h44⟩ := h38
  refine ⟨_, rfl, fun a E => ?_⟩
  refine l_val E ok (y_move rfl) rfl rfl fun a E => ?_
  refine l_val E ok (y_extract rfl rfl) rfl rfl fun a E => ?_
  refine l_val E ok (y_extract rfl rfl) rfl rfl fun a E => ?_
  refine l_alloc E ok zero_25 rfl rfl fun b45 a w E ok => ?_
  refine l_storeB E ok 0 rfl rfl rfl inf_25 rfl rfl ⟨rfl, (pL_one h42), (pL_one h44), trivial⟩ rfl rfl fun w ok => ?_
  refine l_val E ok (y_assign rfl) rfl rfl fun a E => ?_
  refine wpList_nil ?_
  refine t_norm ?_
  refine wp_seq ?_
  refine wp_seq ?_
  refine c_draw (by kernel_rfl) (by kernel_rfl) ok ?_
  refine q_val E (y_move rfl) rfl rfl fun a E => ?_
  refine q_val E (y_move rfl) rfl rfl fun a E => ?_
  refine q_val E (y_neq rfl rfl) rfl rfl fun a E => ?_
  refine q_val E (y_move rfl) rfl rfl fun a E => ?_
  refine bsplit (r22.2 != r34.2) (fun hc46 => ?_) (fun hc46 => ?_)
  · replace hF := cond_t hc46 hF
    replace E := E.upd 38 hc46 rfl
    refine q_skip E rfl rfl fun a E => ?_
    refine q_skip E rfl rfl fun a E => ?_
    refine q_skip E rfl rfl fun a E => ?_
    refine q_skip E rfl rfl fun a E => ?_
    refine q_skip E rfl rfl fun a E => ?_
    refine q_val E (y_pickT rfl rfl) rfl rfl fun a E => ?_
    refine wpQuiet_nil ?_
    intro w ok
    refine t_norm ?_
    refine c_if E rfl (fun _ => ?_) (fun h => by cases h)
    refine wp_seq ?_
    refine c_region ?_
    refine l_val E ok (y_assign rfl) rfl rfl fun a E => ?_
    refine wpList_nil ?_
    refine t_norm ?_
    refine wp_ret ?_
    refine t_ret ?_
    have hret : calquelaw09_AutomatonMinimal_R u m0 S false a w := ⟨(ok.drop.drop.drop).down le_m0, E.d, ⟨rv_t E rfl, trivial⟩⟩
    obtain rfl := Option.some.inj hF
    exact fin _ _ hret
  replace hF := cond_f hc46 hF
  replace E := E.upd 38 hc46 rfl
  refine q_val E (y_loadAgg (cs := [(Value.int .i64 r22.1.Start), c29, c31]) agg_29 rfl rfl (Holds.own 1 rfl rfl)) rfl rfl fun a E => ?_
  obtain ⟨r47, e48, hF⟩ := bnd hF
  refine q_call E go_24 rfl (fun w ok => (calquelaw09_from_w N _ r22.1 ⟨_, _, rfl, r28, h30, h32⟩ e48 ok).mono (fun _ _ h => h)) rfl rfl fun a E => ?_
  refine q_val E (y_loadAgg (cs := [(Value.int .i64 r34.1.Start), c41, c43]) agg_25 rfl rfl (Holds.own 0 rfl rfl)) rfl rfl fun a E => ?_
  obtain ⟨r49, e50, hF⟩ := bnd hF
  refine q_call E go_23 rfl (fun w ok => (calqueref09_Equal_w N _ r22.1 ⟨_, _, rfl, r28, h30, h32⟩ _ r34.1 ⟨_, _, rfl, r40, h42, h44⟩ e50 ok).mono (fun _ _ h => h)) rfl rfl fun a E => ?_
  refine q_val E (y_not rfl) rfl rfl fun a E => ?_
  refine q_val E (y_pickF rfl rfl) rfl rfl fun a E => ?_
  refine wpQuiet_nil ?_
  intro w ok
  refine t_norm ?_
  refine c_if E rfl (fun hc51 => ?_) (fun hc51 => ?_)
  · replace hF := cond_t hc51 hF
    refine wp_seq ?_
    refine c_region ?_
    refine l_val E ok (y_assign rfl) rfl rfl fun a E => ?_
    refine wpList_nil ?_
    refine t_norm ?_
    refine wp_ret ?_
    refine t_ret ?_
    have hret : calquelaw09_AutomatonMinimal_R u m0 S false a w := ⟨(ok.drop.drop.drop).down le_m0, E.d, ⟨rv_t E rfl, trivial⟩⟩
    obtain rfl := Option.some.inj hF
    exact fin _ _ hret
  replace hF := cond_f hc51 hF
  refine wp_skip ?_
  refine t_norm ?_
  refine wp_seq ?_
  refine wp_seq ?_
  refine c_region ?_
  refine l_val E ok (y_move rfl) rfl rfl fun a E => ?_
  refine l_val E ok (y_neq rfl rfl) rfl rfl fun a E => ?_
  refine wpList_nil ?_
  refine t_norm ?_
  refine c_if E rfl (fun hc52 => ?_) (fun hc52 => ?_)
  · replace hF := cond_t hc52 hF
    refine wp_seq ?_
    refine c_region ?_
    refine l_val E ok (y_assign rfl) rfl rfl fun a E => ?_
    refine wpList_nil ?_
    refine t_norm ?_
    refine wp_ret ?_
    refine t_ret ?_
    have hret : calquelaw09_AutomatonMinimal_R u m0 S true a w := ⟨(ok.drop.drop.drop).down le_m0, E.d, ⟨rv_t E rfl, trivial⟩⟩
    obtain rfl := Option.some.inj hF
    exact fin _ _ hret
  replace hF := cond_f hc52 hF
  refine wp_skip ?_
  refine t_norm ?_
  refine wp_seq ?_
  refine c_region ?_
  refine l_val E ok (y_loadAgg (cs := [(Value.int .i64 r22.1.Start), c29, c31]) agg_29 rfl rfl (Holds.own 1 rfl rfl)) rfl rfl fun a E => ?_
  obtain ⟨r53, e54, hF⟩ := bnd hF
  refine l_call E go_21 rfl (automaton_Minimal_w N _ r22.1 ⟨_, _, rfl, r28, h30, h32⟩ e54 ok) rfl rfl ?_
  rintro _ w ⟨m55, vs56, rfl, hle, ok, h57, r58⟩
  have le_m0 := le_m0.trans hle
  have h3 := (mL (mL (mI .i64))).up hle h3
  have h5 := (mL mB).up hle h5
  have h30 := (mL (mL (mI .i64))).up hle h30
  have h32 := (mL mB).up hle h32
  have h42 := (mL (mL (mI .i64))).up hle h42
  have h44 := (mL mB).up hle h44
  obtain ⟨c60, c62, rfl, r59, h61, h63⟩ := h57
  refine ⟨_, rfl, fun a E => ?_⟩
  refine l_val E ok (y_move rfl) rfl rfl fun a E => ?_
  refine l_val E ok (y_extract rfl rfl) rfl rfl fun a E => ?_
  refine l_val E ok (y_extract rfl rfl) rfl rfl fun a E => ?_
  refine l_alloc E ok zero_29 rfl rfl fun b64 a w E ok => ?_
  refine l_storeB E ok 0 rfl rfl rfl inf_29 rfl rfl ⟨rfl, (pL_one h61), (pL_one h63), trivial⟩ rfl rfl fun w ok => ?_
  refine l_val E ok (y_assign rfl) rfl rfl fun a E => ?_
  refine wpList_nil ?_
  refine t_norm ?_
  refine wp_seq ?_
  refine c_draw (by kernel_rfl) (by kernel_rfl) ok ?_
  refine q_val E (y_move rfl) rfl rfl fun a E => ?_
  refine q_val E (y_eql rfl rfl) rfl rfl fun a E => ?_
  refine q_val E (y_move rfl) rfl rfl fun a E => ?_
  refine bsplit (r53.2 == 0) (fun hc65 => ?_) (fun hc65 => ?_)
  rotate_left
  · replace hF := cond_f hc65 hF
    replace E := E.upd 54 hc65 rfl
    refine q_skip E rfl rfl fun a E => ?_
    refine q_skip E rfl rfl fun a E => ?_
    refine q_skip E rfl rfl fun a E => ?_
    refine q_skip E rfl rfl fun a E => ?_
    refine q_val E (y_pickF rfl rfl) rfl rfl fun a E => ?_
    refine q_val E (y_move rfl) rfl rfl fun a E => ?_
    refine q_skip E rfl rfl fun a E => ?_
    refine q_skip E rfl rfl fun a E => ?_
    refine q_skip E rfl rfl fun a E => ?_
    refine q_skip E rfl rfl fun a E => ?_
    refine q_skip E rfl rfl fun a E => ?_
    refine q_skip E rfl rfl fun a E => ?_
    refine q_skip E rfl rfl fun a E => ?_
    refine q_skip E rfl rfl fun a E => ?_
    refine q_val E (y_pickF rfl rfl) rfl rfl fun a E => ?_
    refine q_val E (y_move rfl) rfl rfl fun a E => ?_
    refine q_skip E rfl rfl fun a E => ?_
    refine q_skip E rfl rfl fun a E => ?_
    refine q_skip E rfl rfl fun a E => ?_
    refine q_skip E rfl rfl fun a E => ?_
    refine q_skip E rfl rfl fun a E => ?_
    refine q_skip E rfl rfl fun a E => ?_
    refine q_skip E rfl rfl fun a E => ?_
    refine q_val E (y_pickF rfl rfl) rfl rfl fun a E => ?_
    refine q_val E (y_assign rfl) rfl rfl fun a E => ?_
    refine wpQuiet_nil ?_
    intro w ok
    refine t_norm ?_
    refine wp_ret ?_
    have hret : calquelaw09_AutomatonMinimal_R u m0 S false a w := ⟨(ok.drop.drop.drop.drop).down le_m0, E.d, ⟨rv_t E rfl, trivial⟩⟩
    obtain rfl := Option.some.inj hF
    exact fin _ _ hret
  replace hF := cond_t hc65 hF
  replace E := E.upd 54 hc65 rfl
  refine q_val E (y_loadAgg (cs := [(Value.int .i64 r53.1.Start), c60, c62]) agg_29 rfl rfl (Holds.own 0 rfl rfl)) rfl rfl fun a E => ?_
  obtain ⟨r66, e67, hF⟩ := bnd hF
  refine q_call E go_24 rfl (fun w ok => (calquelaw09_from_w N _ r53.1 ⟨_, _, rfl, r59, h61, h63⟩ e67 ok).mono (fun _ _ h => h)) rfl rfl fun a E => ?_
  refine q_val E (y_loadAgg (cs := [(Value.int .i64 r34.1.Start), c41, c43]) agg_25 rfl rfl (Holds.own 1 rfl rfl)) rfl rfl fun a E => ?_
  obtain ⟨r68, e69, hF⟩ := bnd hF
  refine q_call E go_23 rfl (fun w ok => (calqueref09_Equal_w N _ r53.1 ⟨_, _, rfl, r59, h61, h63⟩ _ r34.1 ⟨_, _, rfl, r40, h42, h44⟩ e69 ok).mono (fun _ _ h => h)) rfl rfl fun a E => ?_
  refine q_val E (y_pickT rfl rfl) rfl rfl fun a E => ?_
  refine q_val E (y_move rfl) rfl rfl fun a E => ?_
  refine bsplit r68 (fun hc70 => ?_) (fun hc70 => ?_)
  rotate_left
  · replace hF := cond_f hc70 hF
    replace E := E.upd 60 hc70 rfl
    refine q_skip E rfl rfl fun a E => ?_
    refine q_skip E rfl rfl fun a E => ?_
    refine q_skip E rfl rfl fun a E => ?_
    refine q_skip E rfl rfl fun a E => ?_
    refine q_skip E rfl rfl fun a E => ?_
    refine q_skip E rfl rfl fun a E => ?_
    refine q_skip E rfl rfl fun a E => ?_
    refine q_skip E rfl rfl fun a E => ?_
    refine q_val E (y_pickF rfl rfl) rfl rfl fun a E => ?_
    refine q_val E (y_move rfl) rfl rfl fun a E => ?_
    refine q_skip E rfl rfl fun a E => ?_
    refine q_skip E rfl rfl fun a E => ?_
    refine q_skip E rfl rfl fun a E => ?_
    refine q_skip E rfl rfl fun a E => ?_
    refine q_skip E rfl rfl fun a E => ?_
    refine q_skip E rfl rfl fun a E => ?_
    refine q_skip E rfl rfl fun a E => ?_
    refine q_val E (y_pickF rfl rfl) rfl rfl fun a E => ?_
    refine q_val E (y_assign rfl) rfl rfl fun a E => ?_
    refine wpQuiet_nil ?_
    intro w ok
    refine t_norm ?_
    refine wp_ret ?_
    have hret : calquelaw09_AutomatonMinimal_R u m0 S false a w := ⟨(ok.drop.drop.drop.drop).down le_m0, E.d, ⟨rv_t E rfl, trivial⟩⟩
    obtain rfl := Option.some.inj hF
    exact fin _ _ hret
  replace hF := cond_t hc70 hF
  replace E := E.upd 60 hc70 rfl
  refine q_val E (y_loadAgg (cs := [(Value.int .i64 r22.1.Start), c29, c31]) agg_29 rfl rfl (Holds.own 2 rfl rfl)) rfl rfl fun a E => ?_
  refine q_val E (y_move rfl) rfl rfl fun a E => ?_
  obtain ⟨r71, e72, hF⟩ := bnd hF
  refine q_call E go_16 rfl (fun w ok => (automaton_Run_w N _ r22.1 ⟨_, _, rfl, r28, h30, h32⟩ word_1 lword_1 e72 ok).mono (fun _ _ h => h)) rfl rfl fun a E => ?_
  refine q_val E (y_loadAgg (cs := [(Value.int .i64 d_0.Start), c2, c4]) agg_25 rfl rfl (Holds.own 3 rfl rfl)) rfl rfl fun a E => ?_
  obtain ⟨r73, e74, hF⟩ := bnd hF
  refine q_call E go_14 rfl (fun w ok => (calquelaw09_to_w N _ d_0 ⟨_, _, rfl, r1, h3, h5⟩ e74 ok).mono (fun _ _ h => h)) rfl rfl fun a E => ?_
  refine q_val E (y_move rfl) rfl rfl fun a E => ?_
  obtain ⟨r75, e76, hF⟩ := bnd hF
  refine q_call E go_16 rfl (fun w ok => (automaton_Run_w N _ d_0 ⟨_, _, rfl, r1, h3, h5⟩ word_1 lword_1 e76 ok).mono (fun _ _ h => h)) rfl rfl fun a E => ?_
  refine q_val E (y_beql Try.underlying4 rfl rfl) rfl rfl fun a E => ?_
  refine q_val E (y_pickT rfl rfl) rfl rfl fun a E => ?_
  refine q_val E (y_move rfl) rfl rfl fun a E => ?_
  refine bsplit (r71 == r75) (fun hc77 => ?_) (fun hc77 => ?_)
  · replace hF := cond_t hc77 hF
    replace E := E.upd 70 hc77 rfl
    refine q_val E (y_fieldAddr fo_29_1 rfl) rfl rfl fun a E => ?_
    refine q_val E (y_load one_22 rfl (Holds.own 2 rfl rfl)) rfl rfl fun a E => ?_
    refine q_val E (y_lenL sl_22 h30 rfl) rfl rfl fun a E => ?_
    refine q_val E (y_fieldAddr fo_25_1 rfl) rfl rfl fun a E => ?_
    refine q_val E (y_load one_22 rfl (Holds.own 3 rfl rfl)) rfl rfl fun a E => ?_
    refine q_val E (y_lenL sl_22 h3 rfl) rfl rfl fun a E => ?_
    refine q_val E (y_leq rfl rfl) rfl rfl fun a E => ?_
    refine q_val E (y_pickT rfl rfl) rfl rfl fun a E => ?_
    refine q_val E (y_assign rfl) rfl rfl fun a E => ?_
    refine wpQuiet_nil ?_
    intro w ok
    refine t_norm ?_
    refine wp_ret ?_
    have hret : calquelaw09_AutomatonMinimal_R u m0 S (decide ((r22.1.Next.length : Int) ≤ (d_0.Next.length : Int))) a w := ⟨(ok.drop.drop.drop.drop).down le_m0, E.d, ⟨rv_t E rfl, trivial⟩⟩
    obtain rfl := Option.some.inj hF
    exact fin _ _ hret
  replace hF := cond_f hc77 hF
  replace E := E.upd 70 hc77 rfl
  refine q_skip E rfl rfl fun a E => ?_
  refine q_skip E rfl rfl fun a E => ?_
  refine q_skip E rfl rfl fun a E => ?_
  refine q_skip E rfl rfl fun a E => ?_
  refine q_skip E rfl rfl fun a E => ?_
  refine q_skip E rfl rfl fun a E => ?_
  refine q_skip E rfl rfl fun a E => ?_
  refine q_val E (y_pickF rfl rfl) rfl rfl fun a E => ?_
  refine q_val E (y_assign rfl) rfl rfl fun a E => ?_
  refine wpQuiet_nil ?_
  intro w ok
  refine t_norm ?_
  refine wp_ret ?_
  have hret : calquelaw09_AutomatonMinimal_R u m0 S false a w := ⟨(ok.drop.drop.drop.drop).down le_m0, E.d, ⟨rv_t E rfl, trivial⟩⟩
  obtain rfl := Option.some.inj hF
  exact fin _ _ hret

def calquelaw09_AutomatonSame_R (u : World) (m0 : Mem) (S : Segs) (r : Bool) (a : Act) (w : World) : Prop :=
  Ok u m0 S w ∧ a.defers = [] ∧ RVs Try.prog a w [.t 6 (.bool r)]
set_option maxHeartbeats 4000000 in
set_option maxRecDepth 100000 in
theorem calquelaw09_AutomatonSame_w {u : World} {m0 : Mem} {S : Segs} {w : World} (N : Nat) (va_0 : List Value) (a_0 : DFA) (ha_0 : pDFA m0 va_0 a_0) (vb_1 : List Value) (b_1 : DFA) (hb_1 : pDFA m0 vb_1 b_1) (word_2 : List UInt8) (lword_2 : word_2.length ≤ LIMS) {r : Bool} (hF : calquelaw09_AutomatonSame N a_0 b_1 word_2 = some r) (ok : Ok u m0 S w) :
    Calls Try.prog 7 [.agg va_0.toArray, .agg vb_1.toArray, Value.string (bs word_2)].toArray w fun e w' => (e = .returned (.bool r) ∧ Ok u m0 S w') := by
  obtain ⟨c2, c4, rfl, r1, h3, h5⟩ := ha_0
  obtain ⟨c7, c9, rfl, r6, h8, h10⟩ := hb_1
  have le_m0 := Mem.le.refl m0
  unfold calquelaw09_AutomatonSame at hF
  have fin : ∀ a w, calquelaw09_AutomatonSame_R u m0 S r a w → bodyPost Try.prog Try.f7 (fun e w' => (e = .returned (.bool r) ∧ Ok u m0 S w')) .ret a w := by
    intro a w h
    obtain ⟨ok, hd, hrv⟩ := h
    exact c_ret2 [.t 6 (.bool r)] hd rfl hrv ⟨rfl, ok⟩
  refine enter Try.func7 rfl rfl rfl fun a E => ?_
  refine wp_seq ?_
  refine c_region ?_
  refine l_box E ok rfl rfl rfl fun b11 a w E ok => ?_
  refine l_box E ok rfl rfl rfl fun b12 a w E ok => ?_
  refine l_val E ok (y_assign rfl) rfl rfl fun a E => ?_
  refine wpList_nil ?_
  refine t_norm ?_
  refine wp_seq ?_
  refine wp_seq ?_
  refine c_region ?_
  obtain ⟨r13, e14, hF⟩ := bnd hF
  refine l_call E go_11 rfl (calquelaw09_awake_w N  e14 ok) rfl rfl ?_
  rintro _ w ⟨rfl, ok⟩
  refine ⟨_, rfl, fun a E => ?_⟩
  refine l_val E ok (y_not rfl) rfl rfl fun a E => ?_
  refine l_val E ok (y_move rfl) rfl rfl fun a E => ?_
  refine bsplit (!r13) (fun hc15 => ?_) (fun hc15 => ?_)
  · replace hF := cond_t hc15 hF
    replace E := E.upd 17 hc15 rfl
    refine l_skip E rfl rfl fun a E => ?_
    refine l_skip E rfl rfl fun a E => ?_
    refine l_skip E rfl rfl fun a E => ?_
    refine l_val E ok (y_pickT rfl rfl) rfl rfl fun a E => ?_
    refine l_val E ok (y_move rfl) rfl rfl fun a E => ?_
    refine l_skip E rfl rfl fun a E => ?_
    refine l_skip E rfl rfl fun a E => ?_
    refine l_skip E rfl rfl fun a E => ?_
    refine l_val E ok (y_pickT rfl rfl) rfl rfl fun a E => ?_
    refine l_val E ok (y_move rfl) rfl rfl fun a E => ?_
    refine l_skip E rfl rfl fun a E => ?_
    refine l_skip E rfl rfl fun a E => ?_
    refine l_skip E rfl rfl fun a E => ?_
    refine l_val E ok (y_pickT rfl rfl) rfl rfl fun a E => ?_
    refine wpList_nil ?_
    refine t_norm ?_
    refine c_if E rfl (fun _ => ?_) (fun h => by cases h)
    refine wp_seq ?_
    refine c_region ?_
    obtain ⟨r16, e17, hF⟩ := bnd hF
    refine l_call E go_11 rfl (calquelaw09_awake_w N  e17 ok) rfl rfl ?_
    rintro _ w ⟨rfl, ok⟩
    refine ⟨_, rfl, fun a E => ?_⟩
    refine l_val E ok (y_assign rfl) rfl rfl fun a E => ?_
    refine wpList_nil ?_
    refine t_norm ?_
    refine wp_ret ?_
    refine t_ret ?_
    have hret : calquelaw09_AutomatonSame_R u m0 S r16 a w := ⟨ok.drop.drop, E.d, ⟨rv_t E rfl, trivial⟩⟩
    obtain rfl := Option.some.inj hF
    exact fin _ _ hret
  replace hF := cond_f hc15 hF
  replace E := E.upd 17 hc15 rfl
  refine l_val E ok (y_loadAgg (cs := [(Value.int .i64 a_0.Start), c2, c4]) agg_25 rfl rfl (Holds.own 1 rfl rfl)) rfl rfl fun a E => ?_
  obtain ⟨r18, e19, hF⟩ := bnd hF
  refine l_call E go_12 rfl (calqueref09_Few_w N _ a_0 ⟨_, _, rfl, r1, h3, h5⟩ 30 (show InR .i64 (30) by decide) e19 ok) rfl rfl ?_
  rintro _ w ⟨rfl, ok⟩
  refine ⟨_, rfl, fun a E => ?_⟩
  refine l_val E ok (y_not rfl) rfl rfl fun a E => ?_
  refine l_val E ok (y_pickF rfl rfl) rfl rfl fun a E => ?_
  refine l_val E ok (y_move rfl) rfl rfl fun a E => ?_
  refine bsplit (!r18) (fun hc20 => ?_) (fun hc20 => ?_)
  · replace hF := cond_t hc20 hF
    replace E := E.upd 22 hc20 rfl
    refine l_skip E rfl rfl fun a E => ?_
    refine l_skip E rfl rfl fun a E => ?_
    refine l_skip E rfl rfl fun a E => ?_
    refine l_val E ok (y_pickT rfl rfl) rfl rfl fun a E => ?_
    refine l_val E ok (y_move rfl) rfl rfl fun a E => ?_
    refine l_skip E rfl rfl fun a E => ?_
    refine l_skip E rfl rfl fun a E => ?_
    refine l_skip E rfl rfl fun a E => ?_
    refine l_val E ok (y_pickT rfl rfl) rfl rfl fun a E => ?_
    refine wpList_nil ?_
    refine t_norm ?_
    refine c_if E rfl (fun _ => ?_) (fun h => by cases h)
    refine wp_seq ?_
    refine c_region ?_
    obtain ⟨r21, e22, hF⟩ := bnd hF
    refine l_call E go_11 rfl (calquelaw09_awake_w N  e22 ok) rfl rfl ?_
    rintro _ w ⟨rfl, ok⟩
    refine ⟨_, rfl, fun a E => ?_⟩
    refine l_val E ok (y_assign rfl) rfl rfl fun a E => ?_
    refine wpList_nil ?_
    refine t_norm ?_
    refine wp_ret ?_
    refine t_ret ?_
    have hret : calquelaw09_AutomatonSame_R u m0 S r21 a w := ⟨ok.drop.drop, E.d, ⟨rv_t E rfl, trivial⟩⟩
    obtain rfl := Option.some.inj hF
    exact fin _ _ hret
  replace hF := cond_f hc20 hF
  replace E := E.upd 22 hc20 rfl
  refine l_val E ok (y_loadAgg (cs := [(Value.int .i64 b_1.Start), c7, c9]) agg_25 rfl rfl (Holds.own 0 rfl rfl)) rfl rfl fun a E => ?_
  obtain ⟨r23, e24, hF⟩ := bnd hF
  refine l_call E go_12 rfl (calqueref09_Few_w N _ b_1 ⟨_, _, rfl, r6, h8, h10⟩ 30 (show InR .i64 (30) by decide) e24 ok) rfl rfl ?_
  rintro _ w ⟨rfl, ok⟩
  refine ⟨_, rfl, fun a E => ?_⟩
  refine l_val E ok (y_not rfl) rfl rfl fun a E => ?_
  refine l_val E ok (y_pickF rfl rfl) rfl rfl fun a E => ?_
  refine l_val E ok (y_move rfl) rfl rfl fun a E => ?_
  refine bsplit (!r23) (fun hc25 => ?_) (fun hc25 => ?_)
  · replace hF := cond_t hc25 hF
    replace E := E.upd 27 hc25 rfl
    refine l_skip E rfl rfl fun a E => ?_
    refine l_skip E rfl rfl fun a E => ?_
    refine l_skip E rfl rfl fun a E => ?_
    refine l_val E ok (y_pickT rfl rfl) rfl rfl fun a E => ?_
    refine wpList_nil ?_
    refine t_norm ?_
    refine c_if E rfl (fun _ => ?_) (fun h => by cases h)
    refine wp_seq ?_
    refine c_region ?_
    obtain ⟨r26, e27, hF⟩ := bnd hF
    refine l_call E go_11 rfl (calquelaw09_awake_w N  e27 ok) rfl rfl ?_
    rintro _ w ⟨rfl, ok⟩
    refine ⟨_, rfl, fun a E => ?_⟩
    refine l_val E ok (y_assign rfl) rfl rfl fun a E => ?_
    refine wpList_nil ?_
    refine t_norm ?_
    refine wp_ret ?_
    refine t_ret ?_
    have hret : calquelaw09_AutomatonSame_R u m0 S r26 a w := ⟨ok.drop.drop, E.d, ⟨rv_t E rfl, trivial⟩⟩
    obtain rfl := Option.some.inj hF
    exact fin _ _ hret
  replace hF := cond_f hc25 hF
  replace E := E.upd 27 hc25 rfl
  refine l_val E ok (y_move rfl) rfl rfl fun a E => ?_
  refine l_val E ok (y_slen Try.underlying9 rfl) rfl rfl fun a E => ?_
  refine l_val E ok (y_gtr rfl rfl) rfl rfl fun a E => ?_
  refine l_val E ok (y_pickF rfl rfl) rfl rfl fun a E => ?_
  refine wpList_nil ?_
  refine t_norm ?_
  refine c_if E rfl (fun hc28 => ?_) (fun hc28 => ?_)
  · replace hF := cond_t hc28 hF
    refine wp_seq ?_
    refine c_region ?_
    obtain ⟨r29, e30, hF⟩ := bnd hF
    refine l_call E go_11 rfl (calquelaw09_awake_w N  e30 ok) rfl rfl ?_
    rintro _ w ⟨rfl, ok⟩
    refine ⟨_, rfl, fun a E => ?_⟩
    refine l_val E ok (y_assign rfl) rfl rfl fun a E => ?_
    refine wpList_nil ?_
    refine t_norm ?_
    refine wp_ret ?_
    refine t_ret ?_
    have hret : calquelaw09_AutomatonSame_R u m0 S r29 a w := ⟨ok.drop.drop, E.d, ⟨rv_t E rfl, trivial⟩⟩
    obtain rfl := Option.some.inj hF
    exact fin _ _ hret
  replace hF := cond_f hc28 hF
  refine wp_skip ?_
  refine t_norm ?_
  refine wp_seq ?_
  refine c_draw (by kernel_rfl) (by kernel_rfl) ok ?_
  refine q_val E (y_loadAgg (cs := [(Value.int .i64 a_0.Start), c2, c4]) agg_25 rfl rfl (Holds.own 1 rfl rfl)) rfl rfl fun a E => ?_
  obtain ⟨r31, e32, hF⟩ := bnd hF
  refine q_call E go_14 rfl (fun w ok => (calquelaw09_to_w N _ a_0 ⟨_, _, rfl, r1, h3, h5⟩ e32 ok).mono (fun _ _ h => h)) rfl rfl fun a E => ?_
  refine q_val E (y_loadAgg (cs := [(Value.int .i64 b_1.Start), c7, c9]) agg_25 rfl rfl (Holds.own 0 rfl rfl)) rfl rfl fun a E => ?_
  obtain ⟨r33, e34, hF⟩ := bnd hF
  refine q_call E go_14 rfl (fun w ok => (calquelaw09_to_w N _ b_1 ⟨_, _, rfl, r6, h8, h10⟩ e34 ok).mono (fun _ _ h => h)) rfl rfl fun a E => ?_
  obtain ⟨r35, e36, hF⟩ := bnd hF
  obtain ⟨_, _, ⟨_, _⟩, r37⟩ := Go.X.Calls.get (automaton_Same_w N _ a_0 ⟨_, _, rfl, r1, h3, h5⟩ _ b_1 ⟨_, _, rfl, r6, h8, h10⟩ e36 ok)
  refine q_call E go_28 rfl (fun w ok => (automaton_Same_w N _ a_0 ⟨_, _, rfl, r1, h3, h5⟩ _ b_1 ⟨_, _, rfl, r6, h8, h10⟩ e36 ok).mono (fun _ _ h => h.1)) rfl rfl fun a E => ?_
  refine q_val E (y_move rfl) rfl rfl fun a E => ?_
  refine q_val E (y_extract rfl rfl) rfl rfl fun a E => ?_
  refine q_val E (y_extract rfl rfl) rfl rfl fun a E => ?_
  refine q_val E (y_assign rfl) rfl rfl fun a E => ?_
  refine q_val E (y_assign rfl) rfl rfl fun a E => ?_
  refine wpQuiet_nil ?_
  intro w ok
  refine t_norm ?_
  refine wp_seq ?_
  refine c_region ?_
  refine l_val E ok (y_loadAgg (cs := [(Value.int .i64 a_0.Start), c2, c4]) agg_25 rfl rfl (Holds.own 1 rfl rfl)) rfl rfl fun a E => ?_
  refine l_val E ok (y_loadAgg (cs := [(Value.int .i64 b_1.Start), c7, c9]) agg_25 rfl rfl (Holds.own 0 rfl rfl)) rfl rfl fun a E => ?_
  obtain ⟨r38, e39, hF⟩ := bnd hF
  refine l_call E go_29 rfl (calqueref09_Same_w N _ a_0 ⟨_, _, rfl, r1, h3, h5⟩ _ b_1 ⟨_, _, rfl, r6, h8, h10⟩ e39 ok) rfl rfl ?_
  rintro _ w ⟨⟨rfl, ok⟩, r40⟩
  refine ⟨_, rfl, fun a E => ?_⟩
  refine l_val E ok (y_move rfl) rfl rfl fun a E => ?_
  refine l_val E ok (y_extract rfl rfl) rfl rfl fun a E => ?_
  refine l_val E ok (y_extract rfl rfl) rfl rfl fun a E => ?_
  refine l_val E ok (y_assign rfl) rfl rfl fun a E => ?_
  refine l_val E ok (y_assign rfl) rfl rfl fun a E => ?_
  refine wpList_nil ?_
  refine t_norm ?_
  refine wp_seq ?_
  refine wp_seq ?_
  refine c_region ?_
  refine l_val E ok (y_move rfl) rfl rfl fun a E => ?_
  refine l_val E ok (y_move rfl) rfl rfl fun a E => ?_
  refine l_val E ok (y_bneq Try.underlying4 rfl rfl) rfl rfl fun a E => ?_
  refine l_val E ok (y_move rfl) rfl rfl fun a E => ?_
  refine bsplit (r35.1 != r38.1) (fun hc41 => ?_) (fun hc41 => ?_)
  · replace hF := cond_t hc41 hF
    replace E := E.upd 50 hc41 rfl
    refine l_skip E rfl rfl fun a E => ?_
    refine l_skip E rfl rfl fun a E => ?_
    refine l_skip E rfl rfl fun a E => ?_
    refine l_val E ok (y_pickT rfl rfl) rfl rfl fun a E => ?_
    refine l_val E ok (y_move rfl) rfl rfl fun a E => ?_
    refine l_skip E rfl rfl fun a E => ?_
    refine l_skip E rfl rfl fun a E => ?_
    refine l_val E ok (y_pickT rfl rfl) rfl rfl fun a E => ?_
    refine wpList_nil ?_
    refine t_norm ?_
    refine c_if E rfl (fun _ => ?_) (fun h => by cases h)
    refine wp_seq ?_
    refine c_region ?_
    refine l_val E ok (y_move rfl) rfl rfl fun a E => ?_
    refine l_val E ok (y_move rfl) rfl rfl fun a E => ?_
    refine l_val E ok (y_beql Try.underlying4 rfl rfl) rfl rfl fun a E => ?_
    refine l_val E ok (y_move rfl) rfl rfl fun a E => ?_
    refine bsplit (r35.1 == r38.1) (fun hc42 => ?_) (fun hc42 => ?_)
    · replace hF := cond_t hc42 hF
      replace E := E.upd 62 hc42 rfl
      refine l_val E ok (y_move rfl) rfl rfl fun a E => ?_
      refine l_val E ok (y_move rfl) rfl rfl fun a E => ?_
      refine l_val E ok (y_eql rfl rfl) rfl rfl fun a E => ?_
      refine l_val E ok (y_pickT rfl rfl) rfl rfl fun a E => ?_
      refine l_val E ok (y_assign rfl) rfl rfl fun a E => ?_
      refine wpList_nil ?_
      refine t_norm ?_
      refine wp_ret ?_
      refine t_ret ?_
      have hret : calquelaw09_AutomatonSame_R u m0 S (r35.2 == r38.2) a w := ⟨ok.drop.drop, E.d, ⟨rv_t E rfl, trivial⟩⟩
      obtain rfl := Option.some.inj hF
      exact fin _ _ hret
    replace hF := cond_f hc42 hF
    replace E := E.upd 62 hc42 rfl
    refine l_skip E rfl rfl fun a E => ?_
    refine l_skip E rfl rfl fun a E => ?_
    refine l_skip E rfl rfl fun a E => ?_
    refine l_val E ok (y_pickF rfl rfl) rfl rfl fun a E => ?_
    refine l_val E ok (y_assign rfl) rfl rfl fun a E => ?_
    refine wpList_nil ?_
    refine t_norm ?_
    refine wp_ret ?_
    refine t_ret ?_
    have hret : calquelaw09_AutomatonSame_R u m0 S false a w := ⟨ok.drop.drop, E.d, ⟨rv_t E rfl, trivial⟩⟩
    obtain rfl := Option.some.inj hF
    exact fin _ _ hret
  replace hF := cond_f hc41 hF
  replace E := E.upd 50 hc41 rfl
  refine l_val E ok (y_move rfl) rfl rfl fun a E => ?_
  refine l_val E ok (y_move rfl) rfl rfl fun a E => ?_
  refine l_val E ok (y_neq rfl rfl) rfl rfl fun a E => ?_
  refine l_val E ok (y_pickF rfl rfl) rfl rfl fun a E => ?_
  refine l_val E ok (y_move rfl) rfl rfl fun a E => ?_
  refine bsplit (r35.2 != r38.2) (fun hc43 => ?_) (fun hc43 => ?_)
  · replace hF := cond_t hc43 hF
    replace E := E.upd 55 hc43 rfl
    refine l_skip E rfl rfl fun a E => ?_
    refine l_skip E rfl rfl fun a E => ?_
    refine l_val E ok (y_pickT rfl rfl) rfl rfl fun a E => ?_
    refine wpList_nil ?_
    refine t_norm ?_
    refine c_if E rfl (fun _ => ?_) (fun h => by cases h)
    refine wp_seq ?_
    refine c_region ?_
    refine l_val E ok (y_move rfl) rfl rfl fun a E => ?_
    refine l_val E ok (y_move rfl) rfl rfl fun a E => ?_
    refine l_val E ok (y_beql Try.underlying4 rfl rfl) rfl rfl fun a E => ?_
    refine l_val E ok (y_move rfl) rfl rfl fun a E => ?_
    refine bsplit (r35.1 == r38.1) (fun hc44 => ?_) (fun hc44 => ?_)
    · replace hF := cond_t hc44 hF
      replace E := E.upd 62 hc44 rfl
      refine l_val E ok (y_move rfl) rfl rfl fun a E => ?_
      refine l_val E ok (y_move rfl) rfl rfl fun a E => ?_
      refine l_val E ok (y_eql rfl rfl) rfl rfl fun a E => ?_
      refine l_val E ok (y_pickT rfl rfl) rfl rfl fun a E => ?_
      refine l_val E ok (y_assign rfl) rfl rfl fun a E => ?_
      refine wpList_nil ?_
      refine t_norm ?_
      refine wp_ret ?_
      refine t_ret ?_
      have hret : calquelaw09_AutomatonSame_R u m0 S (r35.2 == r38.2) a w := ⟨ok.drop.drop, E.d, ⟨rv_t E rfl, trivial⟩⟩
      obtain rfl := Option.some.inj hF
      exact fin _ _ hret
    replace hF := cond_f hc44 hF
    replace E := E.upd 62 hc44 rfl
    refine l_skip E rfl rfl fun a E => ?_
    refine l_skip E rfl rfl fun a E => ?_
    refine l_skip E rfl rfl fun a E => ?_
    refine l_val E ok (y_pickF rfl rfl) rfl rfl fun a E => ?_
    refine l_val E ok (y_assign rfl) rfl rfl fun a E => ?_
    refine wpList_nil ?_
    refine t_norm ?_
    refine wp_ret ?_
    refine t_ret ?_
    have hret : calquelaw09_AutomatonSame_R u m0 S false a w := ⟨ok.drop.drop, E.d, ⟨rv_t E rfl, trivial⟩⟩
    obtain rfl := Option.some.inj hF
    exact fin _ _ hret
  replace hF := cond_f hc43 hF
  replace E := E.upd 55 hc43 rfl
  refine l_val E ok (y_move rfl) rfl rfl fun a E => ?_
  refine l_val E ok (y_neq rfl rfl) rfl rfl fun a E => ?_
  refine l_val E ok (y_pickF rfl rfl) rfl rfl fun a E => ?_
  refine wpList_nil ?_
  refine t_norm ?_
  refine c_if E rfl (fun hc45 => ?_) (fun hc45 => ?_)
  · replace hF := cond_t hc45 hF
    refine wp_seq ?_
    refine c_region ?_
    refine l_val E ok (y_move rfl) rfl rfl fun a E => ?_
    refine l_val E ok (y_move rfl) rfl rfl fun a E => ?_
    refine l_val E ok (y_beql Try.underlying4 rfl rfl) rfl rfl fun a E => ?_
    refine l_val E ok (y_move rfl) rfl rfl fun a E => ?_
    refine bsplit (r35.1 == r38.1) (fun hc46 => ?_) (fun hc46 => ?_)
    · replace hF := cond_t hc46 hF
      replace E := E.upd 62 hc46 rfl
      refine l_val E ok (y_move rfl) rfl rfl fun a E => ?_
      refine l_val E ok (y_move rfl) rfl rfl fun a E => ?_
      refine l_val E ok (y_eql rfl rfl) rfl rfl fun a E => ?_
      refine l_val E ok (y_pickT rfl rfl) rfl rfl fun a E => ?_
      refine l_val E ok (y_assign rfl) rfl rfl fun a E => ?_
      refine wpList_nil ?_
      refine t_norm ?_
      refine wp_ret ?_
      refine t_ret ?_
      have hret : calquelaw09_AutomatonSame_R u m0 S (r35.2 == r38.2) a w := ⟨ok.drop.drop, E.d, ⟨rv_t E rfl, trivial⟩⟩
      obtain rfl := Option.some.inj hF
      exact fin _ _ hret
    replace hF := cond_f hc46 hF
    replace E := E.upd 62 hc46 rfl
    refine l_skip E rfl rfl fun a E => ?_
    refine l_skip E rfl rfl fun a E => ?_
    refine l_skip E rfl rfl fun a E => ?_
    refine l_val E ok (y_pickF rfl rfl) rfl rfl fun a E => ?_
    refine l_val E ok (y_assign rfl) rfl rfl fun a E => ?_
    refine wpList_nil ?_
    refine t_norm ?_
    refine wp_ret ?_
    refine t_ret ?_
    have hret : calquelaw09_AutomatonSame_R u m0 S false a w := ⟨ok.drop.drop, E.d, ⟨rv_t E rfl, trivial⟩⟩
    obtain rfl := Option.some.inj hF
    exact fin _ _ hret
  replace hF := cond_f hc45 hF
  refine wp_skip ?_
  refine t_norm ?_
  refine wp_seq ?_
  refine c_region ?_
  refine l_val E ok (y_loadAgg (cs := [(Value.int .i64 a_0.Start), c2, c4]) agg_25 rfl rfl (Holds.own 1 rfl rfl)) rfl rfl fun a E => ?_
  obtain ⟨r47, e48, hF⟩ := bnd hF
  refine l_call E go_14 rfl (calquelaw09_to_w N _ a_0 ⟨_, _, rfl, r1, h3, h5⟩ e48 ok) rfl rfl ?_
  rintro _ w ⟨rfl, ok⟩
  refine ⟨_, rfl, fun a E => ?_⟩
  obtain ⟨r49, e50, hF⟩ := bnd hF
  refine l_call E go_21 rfl (automaton_Minimal_w N _ a_0 ⟨_, _, rfl, r1, h3, h5⟩ e50 ok) rfl rfl ?_
  rintro _ w ⟨m51, vs52, rfl, hle, ok, h53, r54⟩
  have le_m0 := le_m0.trans hle
  have h3 := (mL (mL (mI .i64))).up hle h3
  have h5 := (mL mB).up hle h5
  have h8 := (mL (mL (mI .i64))).up hle h8
  have h10 := (mL mB).up hle h10
  obtain ⟨c56, c58, rfl, r55, h57, h59⟩ := h53
  refine ⟨_, rfl, fun a E => ?_⟩
  refine l_val E ok (y_move rfl) rfl rfl fun a E => ?_
  refine l_val E ok (y_extract rfl rfl) rfl rfl fun a E => ?_
  refine l_val E ok (y_extract rfl rfl) rfl rfl fun a E => ?_
  refine l_alloc E ok zero_29 rfl rfl fun b60 a w E ok => ?_
  refine l_storeB E ok 0 rfl rfl rfl inf_29 rfl rfl ⟨rfl, (pL_one h57), (pL_one h59), trivial⟩ rfl rfl fun w ok => ?_
  refine l_val E ok (y_assign rfl) rfl rfl fun a E => ?_
  refine wpList_nil ?_
  refine t_norm ?_
  refine wp_seq ?_
  refine c_region ?_
  refine l_val E ok (y_loadAgg (cs := [(Value.int .i64 b_1.Start), c7, c9]) agg_25 rfl rfl (Holds.own 1 rfl rfl)) rfl rfl fun a E => ?_
  obtain ⟨r61, e62, hF⟩ := bnd hF
  refine l_call E go_14 rfl (calquelaw09_to_w N _ b_1 ⟨_, _, rfl, r6, h8, h10⟩ e62 ok) rfl rfl ?_
  rintro _ w ⟨rfl, ok⟩
  refine ⟨_, rfl, fun a E => ?_⟩
  obtain ⟨r63, e64, hF⟩ := bnd hF
  refine l_call E go_21 rfl (automaton_Minimal_w N _ b_1 ⟨_, _, rfl, r6, h8, h10⟩ e64 ok) rfl rfl ?_
  rintro _ w ⟨m65, vs66, rfl, hle, ok, h67, r68⟩
  have le_m0 := le_m0.trans hle
  have h3 := (mL (mL (mI .i64))).up hle h3
  have h5 := (mL mB).up hle h5
  have h8 := (mL (mL (mI .i64))).up hle h8
  have h10 := (mL mB).up hle h10
  have h57 := (mL (mL (mI .i64))).up hle h57
  have h59 := (mL mB).up hle h59
  obtain ⟨c70, c72, rfl, r69, h71, h73⟩ := h67
  refine ⟨_, rfl, fun a E => ?_⟩
  refine l_val E ok (y_move rfl) rfl rfl fun a E => ?_
  refine l_val E ok (y_extract rfl rfl) rfl rfl fun a E => ?_
  refine l_val E ok (y_extract rfl rfl) rfl rfl fun a E => ?_
  refine l_alloc E ok zero_29 rfl rfl fun b74 a w E ok => ?_
  refine l_storeB E ok 0 rfl rfl rfl inf_29 rfl rfl ⟨rfl, (pL_one h71), (pL_one h73), trivial⟩ rfl rfl fun w ok => ?_
  refine l_val E ok (y_assign rfl) rfl rfl fun a E => ?_
  refine wpList_nil ?_
  refine t_norm ?_
  refine wp_seq ?_
  refine c_draw (by kernel_rfl) (by kernel_rfl) ok ?_
  refine q_val E (y_move rfl) rfl rfl fun a E => ?_
  refine q_val E (y_eql rfl rfl) rfl rfl fun a E => ?_
  refine q_val E (y_move rfl) rfl rfl fun a E => ?_
  refine bsplit (r49.2 == 0) (fun hc75 => ?_) (fun hc75 => ?_)
  rotate_left
  · replace hF := cond_f hc75 hF
    replace E := E.upd 81 hc75 rfl
    refine q_skip E rfl rfl fun a E => ?_
    refine q_skip E rfl rfl fun a E => ?_
    refine q_val E (y_pickF rfl rfl) rfl rfl fun a E => ?_
    refine q_val E (y_move rfl) rfl rfl fun a E => ?_
    refine q_skip E rfl rfl fun a E => ?_
    refine q_skip E rfl rfl fun a E => ?_
    refine q_skip E rfl rfl fun a E => ?_
    refine q_skip E rfl rfl fun a E => ?_
    refine q_skip E rfl rfl fun a E => ?_
    refine q_skip E rfl rfl fun a E => ?_
    refine q_skip E rfl rfl fun a E => ?_
    refine q_val E (y_pickF rfl rfl) rfl rfl fun a E => ?_
    refine q_val E (y_move rfl) rfl rfl fun a E => ?_
    refine q_skip E rfl rfl fun a E => ?_
    refine q_skip E rfl rfl fun a E => ?_
    refine q_skip E rfl rfl fun a E => ?_
    refine q_skip E rfl rfl fun a E => ?_
    refine q_skip E rfl rfl fun a E => ?_
    refine q_skip E rfl rfl fun a E => ?_
    refine q_skip E rfl rfl fun a E => ?_
    refine q_skip E rfl rfl fun a E => ?_
    refine q_skip E rfl rfl fun a E => ?_
    refine q_skip E rfl rfl fun a E => ?_
    refine q_skip E rfl rfl fun a E => ?_
    refine q_skip E rfl rfl fun a E => ?_
    refine q_skip E rfl rfl fun a E => ?_
    refine q_val E (y_pickF rfl rfl) rfl rfl fun a E => ?_
    refine q_val E (y_assign rfl) rfl rfl fun a E => ?_
    refine wpQuiet_nil ?_
    intro w ok
    refine t_norm ?_
    refine wp_ret ?_
    have hret : calquelaw09_AutomatonSame_R u m0 S false a w := ⟨(ok.drop.drop.drop.drop).down le_m0, E.d, ⟨rv_t E rfl, trivial⟩⟩
    obtain rfl := Option.some.inj hF
    exact fin _ _ hret
  replace hF := cond_t hc75 hF
  replace E := E.upd 81 hc75 rfl
  refine q_val E (y_move rfl) rfl rfl fun a E => ?_
  refine q_val E (y_eql rfl rfl) rfl rfl fun a E => ?_
  refine q_val E (y_pickT rfl rfl) rfl rfl fun a E => ?_
  refine q_val E (y_move rfl) rfl rfl fun a E => ?_
  refine bsplit (r63.2 == 0) (fun hc76 => ?_) (fun hc76 => ?_)
  rotate_left
  · replace hF := cond_f hc76 hF
    replace E := E.upd 85 hc76 rfl
    refine q_skip E rfl rfl fun a E => ?_
    refine q_skip E rfl rfl fun a E => ?_
    refine q_skip E rfl rfl fun a E => ?_
    refine q_skip E rfl rfl fun a E => ?_
    refine q_skip E rfl rfl fun a E => ?_
    refine q_skip E rfl rfl fun a E => ?_
    refine q_skip E rfl rfl fun a E => ?_
    refine q_val E (y_pickF rfl rfl) rfl rfl fun a E => ?_
    refine q_val E (y_move rfl) rfl rfl fun a E => ?_
    refine q_skip E rfl rfl fun a E => ?_
    refine q_skip E rfl rfl fun a E => ?_
    refine q_skip E rfl rfl fun a E => ?_
    refine q_skip E rfl rfl fun a E => ?_
    refine q_skip E rfl rfl fun a E => ?_
    refine q_skip E rfl rfl fun a E => ?_
    refine q_skip E rfl rfl fun a E => ?_
    refine q_skip E rfl rfl fun a E => ?_
    refine q_skip E rfl rfl fun a E => ?_
    refine q_skip E rfl rfl fun a E => ?_
    refine q_skip E rfl rfl fun a E => ?_
    refine q_skip E rfl rfl fun a E => ?_
    refine q_skip E rfl rfl fun a E => ?_
    refine q_val E (y_pickF rfl rfl) rfl rfl fun a E => ?_
    refine q_val E (y_assign rfl) rfl rfl fun a E => ?_
    refine wpQuiet_nil ?_
    intro w ok
    refine t_norm ?_
    refine wp_ret ?_
    have hret : calquelaw09_AutomatonSame_R u m0 S false a w := ⟨(ok.drop.drop.drop.drop).down le_m0, E.d, ⟨rv_t E rfl, trivial⟩⟩
    obtain rfl := Option.some.inj hF
    exact fin _ _ hret
  replace hF := cond_t hc76 hF
  replace E := E.upd 85 hc76 rfl
  refine q_val E (y_move rfl) rfl rfl fun a E => ?_
  refine q_val E (y_loadAgg (cs := [(Value.int .i64 r49.1.Start), c56, c58]) agg_29 rfl rfl (Holds.own 1 rfl rfl)) rfl rfl fun a E => ?_
  obtain ⟨r77, e78, hF⟩ := bnd hF
  refine q_call E go_24 rfl (fun w ok => (calquelaw09_from_w N _ r49.1 ⟨_, _, rfl, r55, h57, h59⟩ e78 ok).mono (fun _ _ h => h)) rfl rfl fun a E => ?_
  refine q_val E (y_loadAgg (cs := [(Value.int .i64 r63.1.Start), c70, c72]) agg_29 rfl rfl (Holds.own 0 rfl rfl)) rfl rfl fun a E => ?_
  obtain ⟨r79, e80, hF⟩ := bnd hF
  refine q_call E go_24 rfl (fun w ok => (calquelaw09_from_w N _ r63.1 ⟨_, _, rfl, r69, h71, h73⟩ e80 ok).mono (fun _ _ h => h)) rfl rfl fun a E => ?_
  obtain ⟨r81, e82, hF⟩ := bnd hF
  refine q_call E go_23 rfl (fun w ok => (calqueref09_Equal_w N _ r49.1 ⟨_, _, rfl, r55, h57, h59⟩ _ r63.1 ⟨_, _, rfl, r69, h71, h73⟩ e82 ok).mono (fun _ _ h => h)) rfl rfl fun a E => ?_
  refine q_val E (y_beql Try.underlying4 rfl rfl) rfl rfl fun a E => ?_
  refine q_val E (y_pickT rfl rfl) rfl rfl fun a E => ?_
  refine q_val E (y_move rfl) rfl rfl fun a E => ?_
  refine bsplit (r35.1 == r81) (fun hc83 => ?_) (fun hc83 => ?_)
  rotate_left
  · replace hF := cond_f hc83 hF
    replace E := E.upd 94 hc83 rfl
    refine q_skip E rfl rfl fun a E => ?_
    refine q_skip E rfl rfl fun a E => ?_
    refine q_skip E rfl rfl fun a E => ?_
    refine q_skip E rfl rfl fun a E => ?_
    refine q_skip E rfl rfl fun a E => ?_
    refine q_skip E rfl rfl fun a E => ?_
    refine q_skip E rfl rfl fun a E => ?_
    refine q_skip E rfl rfl fun a E => ?_
    refine q_skip E rfl rfl fun a E => ?_
    refine q_skip E rfl rfl fun a E => ?_
    refine q_skip E rfl rfl fun a E => ?_
    refine q_skip E rfl rfl fun a E => ?_
    refine q_skip E rfl rfl fun a E => ?_
    refine q_val E (y_pickF rfl rfl) rfl rfl fun a E => ?_
    refine q_val E (y_assign rfl) rfl rfl fun a E => ?_
    refine wpQuiet_nil ?_
    intro w ok
    refine t_norm ?_
    refine wp_ret ?_
    have hret : calquelaw09_AutomatonSame_R u m0 S false a w := ⟨(ok.drop.drop.drop.drop).down le_m0, E.d, ⟨rv_t E rfl, trivial⟩⟩
    obtain rfl := Option.some.inj hF
    exact fin _ _ hret
  replace hF := cond_t hc83 hF
  replace E := E.upd 94 hc83 rfl
  refine q_val E (y_move rfl) rfl rfl fun a E => ?_
  refine q_val E (y_not rfl) rfl rfl fun a E => ?_
  refine q_val E (y_move rfl) rfl rfl fun a E => ?_
  refine bsplit (!r35.1) (fun hc84 => ?_) (fun hc84 => ?_)
  · replace hF := cond_t hc84 hF
    replace E := E.upd 97 hc84 rfl
    refine q_skip E rfl rfl fun a E => ?_
    refine q_skip E rfl rfl fun a E => ?_
    refine q_skip E rfl rfl fun a E => ?_
    refine q_skip E rfl rfl fun a E => ?_
    refine q_skip E rfl rfl fun a E => ?_
    refine q_skip E rfl rfl fun a E => ?_
    refine q_skip E rfl rfl fun a E => ?_
    refine q_skip E rfl rfl fun a E => ?_
    refine q_skip E rfl rfl fun a E => ?_
    refine q_val E (y_pickT rfl rfl) rfl rfl fun a E => ?_
    refine q_val E (y_pickT rfl rfl) rfl rfl fun a E => ?_
    refine q_val E (y_assign rfl) rfl rfl fun a E => ?_
    refine wpQuiet_nil ?_
    intro w ok
    refine t_norm ?_
    refine wp_ret ?_
    have hret : calquelaw09_AutomatonSame_R u m0 S true a w := ⟨(ok.drop.drop.drop.drop).down le_m0, E.d, ⟨rv_t E rfl, trivial⟩⟩
    obtain rfl := Option.some.inj hF
    exact fin _ _ hret
  replace hF := cond_f hc84 hF
  replace E := E.upd 97 hc84 rfl
  refine q_val E (y_loadAgg (cs := [(Value.int .i64 a_0.Start), c2, c4]) agg_25 rfl rfl (Holds.own 3 rfl rfl)) rfl rfl fun a E => ?_
  obtain ⟨r85, e86, hF⟩ := bnd hF
  refine q_call E go_14 rfl (fun w ok => (calquelaw09_to_w N _ a_0 ⟨_, _, rfl, r1, h3, h5⟩ e86 ok).mono (fun _ _ h => h)) rfl rfl fun a E => ?_
  refine q_val E (y_move rfl) rfl rfl fun a E => ?_
  obtain ⟨r87, e88, hF⟩ := bnd hF
  refine q_call E go_16 rfl (fun w ok => (automaton_Run_w N _ a_0 ⟨_, _, rfl, r1, h3, h5⟩ word_2 lword_2 e88 ok).mono (fun _ _ h => h)) rfl rfl fun a E => ?_
  refine q_val E (y_loadAgg (cs := [(Value.int .i64 b_1.Start), c7, c9]) agg_25 rfl rfl (Holds.own 2 rfl rfl)) rfl rfl fun a E => ?_
  obtain ⟨r89, e90, hF⟩ := bnd hF
  refine q_call E go_14 rfl (fun w ok => (calquelaw09_to_w N _ b_1 ⟨_, _, rfl, r6, h8, h10⟩ e90 ok).mono (fun _ _ h => h)) rfl rfl fun a E => ?_
  refine q_val E (y_move rfl) rfl rfl fun a E => ?_
  obtain ⟨r91, e92, hF⟩ := bnd hF
  refine q_call E go_16 rfl (fun w ok => (automaton_Run_w N _ b_1 ⟨_, _, rfl, r6, h8, h10⟩ word_2 lword_2 e92 ok).mono (fun _ _ h => h)) rfl rfl fun a E => ?_
  refine q_val E (y_beql Try.underlying4 rfl rfl) rfl rfl fun a E => ?_
  refine q_val E (y_pickF rfl rfl) rfl rfl fun a E => ?_
  refine q_val E (y_pickT rfl rfl) rfl rfl fun a E => ?_
  refine q_val E (y_assign rfl) rfl rfl fun a E => ?_
  refine wpQuiet_nil ?_
  intro w ok
  refine t_norm ?_
  refine wp_ret ?_
  have hret : calquelaw09_AutomatonSame_R u m0 S (r87 == r91) a w := ⟨(ok.drop.drop.drop.drop).down le_m0, E.d, ⟨rv_t E rfl, trivial⟩⟩
  obtain rfl := Option.some.inj hF
  exact fin _ _ hret

end Go.Proofs.Ytdlaobjbjmecnaa
