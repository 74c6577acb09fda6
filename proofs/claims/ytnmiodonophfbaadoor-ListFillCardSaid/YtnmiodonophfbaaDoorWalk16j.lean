/- The walks of this part: the model's run of each function yields what the plain function says. Printed by gen.py. -/
import Derived.Test.YtnmiodonophfbaaDoorExt16j
import Derived.Test.YtnmiodonophfbaaDoorWalk16t
import Derived.Test.YtnmiodonophfbaaDoorWalk16u
import Derived.Test.YtnmiodonophfbaaDoorWalk16a
import Derived.Test.YtnmiodonophfbaaDoorBack
import Derived.Test.YtnmiodonophfbaaDoorLibR
import Derived.Test.YtnmiodonophfbaaDoorChecked
import Derived.Test.YtnmiodonophfbaaDoorShelf
set_option linter.unusedVariables false
namespace Go.Proofs.YtnmiodonophfbaaDoor
open Go.X Go.RowKit

theorem go_27 : goB Tryd.prog 27 = true := by kernel_rfl
set_option maxRecDepth 100000 in
theorem inf_9 : ∃ i, Tryd.prog.info? 9 = some i ∧ i.size = 1 := ⟨_, rfl, by kernel_rfl⟩
theorem zero_9 : zeroB Tryd.prog 9 = some [(Value.string (bs ([])))] := by kernel_rfl

theorem cat_le {a b : List UInt8} (h : a.length + b.length ≤ 100000000) : cat a b = some (a ++ b) := by unfold cat; rw [if_pos (by unfold LIMS; omega)]
theorem fill_some {N : Nat} {pat a b : List UInt8} (h1 : pat.length ≤ 1000000) (h2 : a.length ≤ 1000000) (h3 : b.length ≤ 20000) : ∃ r, list_fill N pat a b = some r ∧ r.length ≤ 5000000 := by
  unfold list_fill strings_Cut
  obtain ⟨c1, c2⟩ := cut_len pat [123, 48, 125]
  obtain ⟨c3, c4⟩ := cut_len (Lib.cut pat [123, 48, 125]).1 [123, 49, 125]
  obtain ⟨c5, c6⟩ := cut_len (Lib.cut pat [123, 48, 125]).2.1 [123, 49, 125]
  rw [if_pos (by omega)]
  simp only [Option.bind_some]
  rw [if_pos (by omega)]
  simp only [Option.bind_some]
  rw [if_pos (by omega)]
  cases (Lib.cut (Lib.cut pat [123, 48, 125]).1 [123, 49, 125]).2.2 with
  | true =>
    simp only [cond_true]
    rw [cat_le (by omega)]
    simp only [Option.bind_some]
    rw [cat_le (by simp only [List.length_append]; omega)]
    simp only [Option.bind_some]
    rw [cat_le (by simp only [List.length_append]; omega)]
    simp only [Option.bind_some]
    rw [cat_le (by simp only [List.length_append]; omega)]
    exact ⟨_, rfl, by simp only [List.length_append]; omega⟩
  | false =>
    simp only [cond_false, Option.bind_some]
    rw [cat_le (by omega)]
    simp only [Option.bind_some]
    rw [cat_le (by simp only [List.length_append]; omega)]
    simp only [Option.bind_some]
    rw [cat_le (by simp only [List.length_append]; omega)]
    simp only [Option.bind_some]
    rw [cat_le (by simp only [List.length_append]; omega)]
    exact ⟨_, rfl, by simp only [List.length_append]; omega⟩
def jpat (p : ListPattern) (i : Nat) : List UInt8 := if i = 0 then p.Start else p.Middle
/-- The text behind some rounds. -/
def jf (N : Nat) (p : ListPattern) (o : List UInt8) (pre : List (Bp 1000000)) : List UInt8 := pre.foldl (fun r x => (list_fill N (jpat p x.1.1) x.1.2 r).getD []) o
theorem jf_snoc (N : Nat) (p : ListPattern) (o : List UInt8) (pre : List (Bp 1000000)) (x : Bp 1000000) : jf N p o (pre ++ [x]) = (list_fill N (jpat p x.1.1) x.1.2 (jf N p o pre)).getD [] := by simp [jf]
theorem bk_take (zs : List (List UInt8)) (hM : ∀ k : Nat, (zs[k]?.getD []).length ≤ 1000000) {j k : Nat} (h : j ≤ k) : (bk zs hM k).take j = bk zs hM j := by
  unfold bk
  rw [← List.map_take, List.take_range, Nat.min_eq_left h]
theorem jrun_bk {N : Nat} {p : ListPattern} {o : List UInt8} (hs : p.Start.length ≤ 1000000) (hm : p.Middle.length ≤ 1000000) (zs : List (List UInt8)) (hM : ∀ k : Nat, (zs[k]?.getD []).length ≤ 1000000) :
    ∀ k, k ≤ zs.length → (∀ j, j < k → (jf N p o (bk zs hM j)).length ≤ 20000) → jrun N p zs zs.length o = jrun N p zs (zs.length - k) (jf N p o (bk zs hM k))
  | 0, _, _ => rfl
  | k + 1, hk, h => by
    rw [jrun_bk hs hm zs hM k (by omega) (fun j hj => h j (by omega)), show zs.length - k = (zs.length - (k + 1)) + 1 by omega, jrun, if_neg (by have := h k (by omega); omega), bk_succ, jf_snoc]
    have e : zs.length - 1 - k = zs.length - (k + 1) := by omega
    simp only [e]
    obtain ⟨r, hr, _⟩ := fill_some (N := N) (pat := jpat p (zs.length - (k + 1))) (a := zs[zs.length - (k + 1)]?.getD []) (b := jf N p o (bk zs hM k)) (by unfold jpat; split <;> assumption) (hM _) (h k (by omega))
    unfold jpat at hr ⊢
    rw [hr]
    rfl
theorem env_loosen {n : Nat} {a : Act} {L : List (Nat × Value)} {t : Array Value} (E : Env n a L) (h : t = a.tmps) : Env n { tmps := t, defers := [] } L := by
  subst h
  exact ⟨rfl, E.sz, E.get⟩

def list_join_R (u : World) (m0 : Mem) (S : Segs) (r : (List UInt8)) (a : Act) (w : World) : Prop :=
  Ok u m0 S w ∧ a.defers = [] ∧ RVs Tryd.prog a w [.c 4 9 (.string (bs r))] ∧ r.length ≤ LIMS
set_option maxHeartbeats 4000000 in
set_option maxRecDepth 100000 in
theorem list_join_w {u : World} {m0 : Mem} {S : Segs} {w : World} (N : Nat) (vp_0 : List Value) (p_0 : ListPattern) (hp_0 : pListPattern m0 vp_0 p_0) (vitems_1 : Value) (items_1 : List (List UInt8)) (hitems_1 : (pL 1 pS) m0 [vitems_1] items_1) {r : (List UInt8)} (hF : list_join N p_0 items_1 = some r) (hG : Glob u) (ok : Ok u m0 S w) :
    Calls Tryd.prog 20 [.agg vp_0.toArray, vitems_1].toArray w fun e w' => (e = .returned (.string (bs r)) ∧ Ok u m0 S w') ∧ r.length ≤ LIMS := by
  obtain ⟨rfl, l1, l2, l3, l4, l5⟩ := hp_0
  have hb0 := ok.base
  have le_m0 := Mem.le.refl m0
  unfold list_join at hF
  have fin : ∀ a w, list_join_R u m0 S r a w → bodyPostM Fence.wide 3 Tryd.prog Tryd.f20 (fun e w' => (e = .returned (.string (bs r)) ∧ Ok u m0 S w') ∧ r.length ≤ LIMS) .ret a w := by
    intro a w h
    obtain ⟨ok, hd, hrv, h0⟩ := h
    exact leaveM (c_ret2 [.c 4 9 (.string (bs r))] hd rfl hrv ⟨⟨rfl, ok⟩, h0⟩)
  refine enterM Tryd.func20 rfl rfl rfl fun a E => ?_
  refine wp_seq ?_
  refine c_region ?_
  refine l_box E ok rfl rfl rfl fun b6 a w E ok => ?_
  refine l_alloc E ok zero_9 rfl rfl fun b7 a w E ok => ?_
  refine wpList_nil ?_
  refine t_norm ?_
  refine wp_seq ?_
  refine c_region ?_
  refine l_val E ok (y_move rfl) rfl rfl fun a E => ?_
  refine l_val E ok (y_lenL sl_24 hitems_1 rfl) rfl rfl fun a E => ?_
  refine l_val E ok (y_assign rfl) rfl rfl fun a E => ?_
  refine wpList_nil ?_
  refine t_norm ?_
  refine wp_seq ?_
  refine wp_seq ?_
  refine c_region ?_
  refine l_val E ok (y_move rfl) rfl rfl fun a E => ?_
  refine wpList_nil ?_
  refine t_norm ?_
  refine wp_block ?_
  refine wp_seq ?_
  refine c_region ?_
  refine l_val E ok (y_eql rfl rfl) rfl rfl fun a E => ?_
  refine l_val E ok (y_assign rfl) rfl rfl fun a E => ?_
  refine wpList_nil ?_
  refine t_norm ?_
  refine c_if E rfl (fun hc8 => ?_) (fun hc8 => ?_)
  · replace hF := cond_t hc8 hF
    refine wp_seq ?_
    refine c_region ?_
    refine l_storeB E ok 0 rfl rfl rfl inf_9 rfl rfl ⟨rfl, trivial⟩ rfl rfl fun w ok => ?_
    refine wpList_nil ?_
    refine t_norm ?_
    refine wp_ret ?_
    refine b_ret ?_
    refine t_ret ?_
    have hret : list_join_R u m0 S ([]) a w := ⟨ok.drop.drop, E.d, ⟨rv_c1 E ok rfl one_9 (Holds.own 0 rfl rfl), trivial⟩, (show ([] : List UInt8).length ≤ LIMS by decide)⟩
    obtain rfl := Option.some.inj hF
    exact fin _ _ hret
  replace hF := cond_f hc8 hF
  refine wp_seq ?_
  refine c_region ?_
  refine l_val E ok (y_eql rfl rfl) rfl rfl fun a E => ?_
  refine l_val E ok (y_assign rfl) rfl rfl fun a E => ?_
  refine wpList_nil ?_
  refine t_norm ?_
  refine c_if E rfl (fun hc9 => ?_) (fun hc9 => ?_)
  · replace hF := cond_t hc9 hF
    refine wp_seq ?_
    refine c_region ?_
    refine l_val E ok (y_move rfl) rfl rfl fun a E => ?_
    obtain ⟨x10, e11, hF⟩ := bnd hF
    obtain ⟨b12, o13, es14, hl15, rr16, at17, yy18⟩ := idxAt sl_24 hitems_1 e11 (P := Tryd.prog) (X := .tmp 17) (I := .const (Value.int .i64 0)) (kd := .i64) (ev_of E rfl) (ev_of E rfl)
    obtain ⟨rfl, l19⟩ := rr16
    refine l_val E ok (yy18 _ _) rfl rfl fun a E => ?_
    refine l_val E ok (y_load one_9 rfl (Holds.ro at17)) rfl rfl fun a E => ?_
    refine l_storeB E ok 0 rfl rfl rfl inf_9 rfl rfl ⟨rfl, trivial⟩ rfl rfl fun w ok => ?_
    refine wpList_nil ?_
    refine t_norm ?_
    refine wp_ret ?_
    refine b_ret ?_
    refine t_ret ?_
    have hret : list_join_R u m0 S x10 a w := ⟨ok.drop.drop, E.d, ⟨rv_c1 E ok rfl one_9 (Holds.own 0 rfl rfl), trivial⟩, l19⟩
    obtain rfl := Option.some.inj hF
    exact fin _ _ hret
  replace hF := cond_f hc9 hF
  refine wp_seq ?_
  refine c_region ?_
  refine l_val E ok (y_eql rfl rfl) rfl rfl fun a E => ?_
  refine l_val E ok (y_assign rfl) rfl rfl fun a E => ?_
  refine wpList_nil ?_
  refine t_norm ?_
  refine c_if E rfl (fun hc20 => ?_) (fun hc20 => ?_)
  · replace hF := cond_t hc20 hF
    refine wp_seq ?_
    obtain ⟨o21, hJ, hF⟩ := bnd hF
    refine c_mono (Q' := fun e a w => e = .normal ∧ Ok u m0 ([(b7, Obj.cells [(Value.string (bs o21))].toArray 9 (0, 0))] :: [(b6, Obj.cells [(Value.string (bs p_0.Style)), (Value.string (bs p_0.Two)), (Value.string (bs p_0.Start)), (Value.string (bs p_0.Middle)), (Value.string (bs p_0.End))].toArray 23 (0, 0))] :: S) w ∧ Env 66 a [(4, (Value.pointer (some ⟨b7, 0, none⟩)))] ∧ o21.length ≤ LIMS) ?_ ?_
    rotate_left
    · clear hJ
      intro e a w hO
      obtain ⟨rfl, ok, E, l63⟩ := hO
      refine t_norm ?_
      refine wp_ret ?_
      refine b_ret ?_
      refine t_ret ?_
      have hret : list_join_R u m0 S o21 a w := ⟨ok.drop.drop, E.d, ⟨rv_c1 E ok rfl one_9 (Holds.own 0 rfl rfl), trivial⟩, l63⟩
      obtain rfl := Option.some.inj hF
      exact fin _ _ hret
    replace hF := hJ
    clear hJ
    obtain ⟨x23, e24, hF⟩ := bnd hF
    obtain ⟨x33, e34, hF⟩ := bnd hF
    obtain ⟨r43, e44, hF⟩ := bnd hF
    obtain rfl := Option.some.inj hF
    refine k_begin [1, 4, 7] (Cls u m0 ([(b7, Obj.cells [(Value.string (bs ([])))].toArray 9 (0, 0))] :: [(b6, Obj.cells [(Value.string (bs p_0.Style)), (Value.string (bs p_0.Two)), (Value.string (bs p_0.Start)), (Value.string (bs p_0.Middle)), (Value.string (bs p_0.End))].toArray 23 (0, 0))] :: [])) (Cls u m0 ([(b6, Obj.cells [(Value.string (bs p_0.Style)), (Value.string (bs p_0.Two)), (Value.string (bs p_0.Start)), (Value.string (bs p_0.Middle)), (Value.string (bs p_0.End))].toArray 23 (0, 0))] :: [])) (by kernel_rfl) ?_
    intro w hw
    replace ok := okdrew ok hw
    clear hw
    refine k_next (cl1 ⟨m0, _, le_m0, ok, ⟨memAt 0 rfl, memAt 1 rfl, trivial⟩⟩ ⟨m0, _, le_m0, ok, ⟨memAt 1 rfl, trivial⟩⟩) fun hT => ?_
    refine k_take 0 E rfl (by kernel_rfl) nP hT (y_fieldAddr fo_23_1 rfl) rfl rfl fun a E => ?_
    refine k_takeN 1 E rfl (by kernel_rfl) nP hT (y_load one_9 rfl (Holds.cown 1 rfl rfl)) rfl rfl fun a E => ?_
    refine k_take 2 E rfl (by kernel_rfl) nP hT (y_move rfl) rfl rfl fun a E => ?_
    obtain ⟨b46, o47, es48, hl49, rr50, at51, yy52⟩ := idxAt sl_24 hitems_1 e24 (P := Tryd.prog) (X := .tmp 24) (I := .const (Value.int .i64 0)) (kd := .i64) (ev_of E rfl) (ev_of E rfl)
    obtain ⟨rfl, l53⟩ := rr50
    refine k_take 3 E rfl (by kernel_rfl) nP hT (yy52 _ _) rfl rfl fun a E => ?_
    refine k_takeN 4 E rfl (by kernel_rfl) nP hT (y_load one_9 rfl (Holds.cro at51)) rfl rfl fun a E => ?_
    refine k_take 5 E rfl (by kernel_rfl) nP hT (y_move rfl) rfl rfl fun a E => ?_
    obtain ⟨b54, o55, es56, hl57, rr58, at59, yy60⟩ := idxAt sl_24 hitems_1 e34 (P := Tryd.prog) (X := .tmp 27) (I := .const (Value.int .i64 1)) (kd := .i64) (ev_of E rfl) (ev_of E rfl)
    obtain ⟨rfl, l61⟩ := rr58
    refine k_take 6 E rfl (by kernel_rfl) nP hT (yy60 _ _) rfl rfl fun a E => ?_
    refine k_takeN 7 E rfl (by kernel_rfl) nP hT (y_load one_9 rfl (Holds.cro at59)) rfl rfl fun a E => ?_
    refine k_all [8] (by kernel_rfl) rfl (one_c ?_)
    · refine wpOp_of_list (o := _) rfl ?_
      refine l_call E go_22 rfl (list_fill_w N p_0.Two l2 x23 l53 x33 l61 e44 hG ok) rfl rfl ?_
      rintro _ w ⟨⟨rfl, ok⟩, l62⟩
      refine ⟨_, rfl, fun a E => ?_⟩
      refine wpList_nil ?_
      refine t_norm ?_
      refine k_next (cl1 ⟨m0, _, le_m0, ok, ⟨memAt 0 rfl, memAt 1 rfl, trivial⟩⟩ ⟨m0, _, le_m0, ok, ⟨memAt 1 rfl, trivial⟩⟩) fun hT => ?_
      refine k_all [9] (by kernel_rfl) rfl (one_c ?_)
      · refine wpOp_of_list (o := _) rfl ?_
        refine l_storeB E ok 0 rfl rfl rfl inf_9 rfl rfl ⟨rfl, trivial⟩ rfl rfl fun w ok => ?_
        refine wpList_nil ?_
        refine t_norm ?_
        refine k_next (cl2 (by kernel_rfl) ⟨m0, _, le_m0, ok, ⟨memAt 1 rfl, trivial⟩⟩) fun hT => ?_
        refine k_done (by kernel_rfl) ?_
        exact ⟨rfl, ⟨ok, E.keep [4], l62⟩⟩
  replace hF := cond_f hc20 hF
  refine wp_skip ?_
  refine b_norm ?_
  refine t_norm ?_
  refine wp_seq ?_
  obtain ⟨o64, hJ, hF⟩ := bnd hF
  refine c_mono (Q' := fun e a w => e = .normal ∧ ∃ b66, Ok u m0 ([(b66, Obj.cells [(Value.string (bs o64))].toArray 9 (0, 0))] :: [(b7, Obj.cells [(Value.string (bs ([])))].toArray 9 (0, 0))] :: [(b6, Obj.cells [(Value.string (bs p_0.Style)), (Value.string (bs p_0.Two)), (Value.string (bs p_0.Start)), (Value.string (bs p_0.Middle)), (Value.string (bs p_0.End))].toArray 23 (0, 0))] :: S) w ∧ Env 66 a [(1, vitems_1), (2, (Value.pointer (some ⟨b6, 0, none⟩))), (4, (Value.pointer (some ⟨b7, 0, none⟩))), (5, (Value.int .i64 (items_1.length : Int))), (6, (Value.pointer (some ⟨b66, 0, none⟩)))] ∧ o64.length ≤ LIMS) ?_ ?_
  rotate_left
  · clear hJ
    intro e a w hO
    obtain ⟨rfl, b112, ok, E, l111⟩ := hO
    refine t_norm ?_
    refine wp_seq ?_
    refine wp_seq ?_
    refine c_region ?_
    refine l_val E ok (y_move rfl) rfl rfl fun a E => ?_
    refine l_val E ok (y_move rfl) rfl rfl fun a E => ?_
    refine l_val E ok (y_subw rfl rfl) rfl rfl fun a E => ?_
    obtain ⟨l113, e114, hF⟩ := bnd hF
    obtain ⟨c115, h116, yy117⟩ := pL_slice sl_24 hitems_1 e114 (P := Tryd.prog) (X := .tmp 44) (lov := none) (hiv := (some (.tmp 46))) (ev_of E rfl) (sb_of E rfl) (sb_of E ⟨_, rfl⟩)
    refine l_val E ok (yy117 _ _) rfl rfl fun a E => ?_
    obtain ⟨⟨ad118, cap119, hv120⟩, _⟩ := pL_inv h116
    rw [hv120] at E
    refine l_call E go_27 rfl (slices_Backward_w ok) rfl rfl ?_
    rintro _ w ⟨b121, rfl, ok⟩
    refine ⟨_, rfl, fun a E => ?_⟩
    refine wpList_nil ?_
    refine t_norm ?_
    refine wp_block ?_
    obtain ⟨hjk, hF⟩ : jok p_0 l113 o64 = true ∧ jrun N p_0 l113 l113.length o64 = some r := by
      unfold jl at hF
      by_cases h : jok p_0 l113 o64 = true
      · rw [if_pos h] at hF; exact ⟨h, hF⟩
      · rw [if_neg h] at hF; cases hF
    unfold jok at hjk
    simp only [Bool.and_eq_true, decide_eq_true_eq, List.all_eq_true] at hjk
    obtain ⟨hst, hmi, hrs, hz1, hz9, hall⟩ := hjk
    have hM : ∀ k : Nat, (l113[k]?.getD []).length ≤ 1000000 := fun k => by
      cases hk : l113[k]? with
      | none => simp
      | some s => exact hall s (List.mem_of_getElem? hk)
    obtain ⟨ad, cap, hsl, hc1, hc2, hc3, hc4⟩ := h116
    obtain ⟨b, off, rfl, hel⟩ := hc4 (by omega)
    obtain ⟨h0a, rfl⟩ : ad118 = some ⟨b, off, none⟩ ∧ cap119 = cap := by
      have := (List.cons.inj hsl).1
      rw [hv120] at this
      injection this with h1 h2 h3
      exact ⟨h1, h3⟩
    subst h0a
    clear hsl hv120
    have hat : ∀ j, j < l113.length → m0.cell ⟨b, off + j, none⟩ = some (.string (bs (l113[j]?.getD []))) := fun j hj => by
      obtain ⟨es, e1, e2, e3⟩ := hel j _ (List.getElem?_eq_getElem hj)
      obtain ⟨rfl, _⟩ := e3
      have := e2 0 _ rfl
      rw [List.getElem?_eq_getElem hj]
      simpa using this
    have hmb : ∃ ob, m0 b = some ob := by
      have := hat 0 (by omega)
      unfold Mem.cell at this
      cases hb : m0 b with
      | none => rw [show (⟨b, off + 0, none⟩ : Addr).block = b from rfl, hb] at this; cases this
      | some ob => exact ⟨ob, rfl⟩
    obtain ⟨ob, hmb⟩ := hmb
    have hbw := ok.ro b ob hmb
    have hblt : b < w.heap.size := (Array.getElem?_eq_some_iff.1 hbw).1
    have own1 := ok.own _ (List.mem_flatten.2 ⟨_, List.mem_of_getElem? (i := 0) rfl, List.mem_singleton.2 rfl⟩)
    have own2 := ok.own _ (List.mem_flatten.2 ⟨_, List.mem_of_getElem? (i := 1) rfl, List.mem_singleton.2 rfl⟩)
    have own3 := ok.own _ (List.mem_flatten.2 ⟨_, List.mem_of_getElem? (i := 2) rfl, List.mem_singleton.2 rfl⟩)
    simp only at own1 own2 own3
    have hlt1 : b121 < w.heap.size := (Array.getElem?_eq_some_iff.1 own1.1).1
    have hlt2 : b112 < w.heap.size := (Array.getElem?_eq_some_iff.1 own2.1).1
    have hlt3 : b7 < w.heap.size := (Array.getElem?_eq_some_iff.1 own3.1).1
    have hb2 : b112 ≠ b := fun e => by rw [e, hmb] at own2; exact absurd own2.2 (by simp)
    have hb3 : b7 ≠ b := fun e => by rw [e, hmb] at own3; exact absurd own3.2 (by simp)
    have hnd := ok.nd
    simp only [List.flatten_cons, List.cons_append, List.nil_append, List.pairwise_cons] at hnd
    have hb12 : b121 ≠ b112 := hnd.1 _ List.mem_cons_self
    have hb13 : b121 ≠ b7 := hnd.1 _ (List.mem_cons_of_mem _ List.mem_cons_self)
    have hb23 : b112 ≠ b7 := hnd.2.1 _ List.mem_cons_self
    clear hnd
    obtain ⟨SS, hSS⟩ : ∃ SS : List UInt8 → List UInt8 → Segs, SS = fun x y => [(b121, Obj.cells [Value.slice (some ⟨b, off, none⟩) l113.length cap119].toArray 24 (0, 0))] :: [(b112, Obj.cells [Value.string (bs x)].toArray 9 (0, 0))] :: [(b7, Obj.cells [Value.string (bs y)].toArray 9 (0, 0))] :: [(b6, Obj.cells [(Value.string (bs p_0.Style)), (Value.string (bs p_0.Two)), (Value.string (bs p_0.Start)), (Value.string (bs p_0.Middle)), (Value.string (bs p_0.End))].toArray 23 (0, 0))] :: S := ⟨_, rfl⟩
    have hSlt : ∀ x y, ∀ q ∈ (SS x y).flatten, q.1 < w.heap.size := fun x y q hq => by
      have hq' : q.1 = b121 ∨ q.1 = b112 ∨ q.1 = b7 ∨ ∃ q', q' ∈ ([(b121, Obj.cells [Value.slice (some ⟨b, off, none⟩) l113.length cap119].toArray 24 (0, 0))] :: [(b112, Obj.cells [Value.string (bs o64)].toArray 9 (0, 0))] :: [(b7, Obj.cells [Value.string (bs [])].toArray 9 (0, 0))] :: [(b6, Obj.cells [(Value.string (bs p_0.Style)), (Value.string (bs p_0.Two)), (Value.string (bs p_0.Start)), (Value.string (bs p_0.Middle)), (Value.string (bs p_0.End))].toArray 23 (0, 0))] :: S).flatten ∧ q'.1 = q.1 := by
        rw [hSS] at hq
        simp only [List.flatten_cons, List.cons_append, List.nil_append, List.mem_cons] at hq
        rcases hq with rfl | rfl | rfl | hq
        · exact .inl rfl
        · exact .inr (.inl rfl)
        · exact .inr (.inr (.inl rfl))
        · exact .inr (.inr (.inr ⟨q, by simp only [List.flatten_cons, List.cons_append, List.nil_append, List.mem_cons]; exact .inr (.inr (.inr hq)), rfl⟩))
      rcases hq' with h | h | h | ⟨q', h1, h2⟩
      · omega
      · omega
      · omega
      · rw [← h2]; exact (Array.getElem?_eq_some_iff.1 (ok.own q' h1).1).1
    have hmlt : ∀ b o, m0 b = some o → b < w.heap.size := fun b o h => ok.m_lt h
    have hgrow : ∀ {x y : List UInt8} {X Y : World} {row : Option Nat}, Ok u m0 (SS x y) X → X.grownBy Y row → (∀ r, row = some r → w.heap.size ≤ r ∧ ∃ o : Obj, X.heap[r]? = some o ∧ o.isCells = false) → Ok u m0 (SS x y) Y := fun hX hg hr => hX.grown hg (fun r e => (hr r e).1) hmlt (hSlt _ _)
    have E0 := E.keep [2, 4, 6]
    refine (wpIn_wide (n := 3)).1 (wpIn_rangeFunc_ownH (n := 3) (α := Bp 1000000) (gf := 38) (lb := #[.pointer (some ⟨b121, 0, none⟩)]) (N := l113.length) (w0 := w) (encs := fun x : Bp 1000000 => #[Value.int .i64 (x.1.1 : Int), Value.string (bs x.1.2)]) (Kp := Keep2 b121 b) rfl (by decide) (E.ev rfl) trivial (fun args w => rfl)
      (back_stops Fence.wide 2 trivial rfl (by decide) b121 b off cap119 l113 hM hz9 w hlt1 hblt (by
        unfold World.cell?; simp [own1.1]) (fun j hj => ok.cell (hat j hj)))
      (fun h k => h.trans k) (fun W l o o' hl _ _ _ => Keep2.put l o' (by omega) (by omega)) (Below.refl _ _) (fun _ => rfl)
      (fun pre W => Ok u m0 (SS (jf N p_0 o64 pre) []) W ∧ (jf N p_0 o64 pre).length ≤ 5000000 ∧ ∀ j, j < pre.length → (jf N p_0 o64 (pre.take j)).length ≤ 20000)
      (fun c pre W => c = .ret ∧ ∃ pre0 x, pre = pre0 ++ [x] ∧ 20000 < (jf N p_0 o64 pre0).length ∧ (jf N p_0 o64 pre0).length ≤ 5000000 ∧ (∀ j, j < pre0.length → (jf N p_0 o64 (pre0.take j)).length ≤ 20000) ∧ Ok u m0 (SS (jf N p_0 o64 pre0) (jf N p_0 o64 pre0)) W)
      (fun pre X Y row h hg hr => ⟨hgrow h.1 hg hr, h.2⟩)
      (fun c pre X Y row h hg hr => by
        obtain ⟨h1, pre0, x, h2, h3, h4, h5, h6⟩ := h
        exact ⟨h1, pre0, x, h2, h3, h4, h5, hgrow h6 hg hr⟩)
      ⟨by rw [hSS]; exact ok, hrs, fun j hj => by cases hj⟩
      (fun x a' _ => Env 66 a' [(8, Value.string (bs x.1.2)), (7, Value.int .i64 (x.1.1 : Int)), (2, (Value.pointer (some ⟨b6, 0, none⟩))), (4, (Value.pointer (some ⟨b7, 0, none⟩))), (6, (Value.pointer (some ⟨b112, 0, none⟩)))])
      (fun _ _ _ _ _ _ h _ _ => h) ?_ ?_ ?_ ?_)
    · -- the loop's variables
      intro l pre x W K hI hK
      have E1 := ((E.keep [2, 4, 6]).put 49 (Value.int .i64 (x.1.1 : Int)) rfl).put 50 (Value.string (bs x.1.2)) rfl
      replace E1 := env_loosen E1 (t := ((#[49, 50] : Array Nat).zip #[Value.int .i64 (x.1.1 : Int), Value.string (bs x.1.2)]).foldl (fun t (p : Nat × Value) => t.setIfInBounds p.1 p.2) a.tmps) (by simp [Act.put])
      have okW := hI.1
      refine wpIn_seq ?_
      refine r_region ?_
      refine r_val E1 okW (y_assign rfl) (by intro c h; cases h) rfl rfl fun a1 E1 => ?_
      refine wpListIn_nil ?_
      refine t_norm ?_
      refine r_region ?_
      refine r_val E1 okW (y_assign rfl) (by intro c h; cases h) rfl rfl fun a1 E1 => ?_
      refine wpListIn_nil ?_
      refine t_norm ?_
      exact hK _ _ (KeepsFrom.refl _ _) (Keep2.refl _ _ _) hI (E1.keep [8, 7, 2, 4, 6])
    · -- a round
      intro l pre x a' W hl hrec hI hAx hlen
      obtain ⟨okW, hI2, hI3⟩ := hI
      have lf : (jf N p_0 o64 pre).length ≤ LIMS := by unfold LIMS; omega
      have lx : x.1.2.length ≤ LIMS := by have := x.2; unfold LIMS; omega
      rw [hSS] at okW
      refine wpIn_block ?_
      refine wpIn_seq ?_
      refine wpIn_seq ?_
      refine r_region ?_
      refine r_val hAx okW (y_load one_9 rfl (Holds.own 1 rfl rfl)) (by intro c h; cases h) rfl rfl fun a' E => ?_
      refine r_val E okW (y_slen Tryd.underlying9 rfl) (by intro c h; cases h) rfl rfl fun a' E => ?_
      refine r_val E okW (y_gtr rfl rfl) (by intro c h; cases h) rfl rfl fun a' E => ?_
      refine wpListIn_nil ?_
      refine t_norm ?_
      refine r_if E rfl (fun hlong => ?_) (fun hlong => ?_)
      · -- too long: out
        refine wpIn_seq ?_
        refine r_region ?_
        refine r_val E okW (y_load one_9 rfl (Holds.own 1 rfl rfl)) (by intro c h; cases h) rfl rfl fun a' E => ?_
        refine r_store1 E okW 2 rfl rfl rfl inf_9 rfl rfl rfl rfl fun okW => ?_
        refine wpListIn_nil ?_
        refine t_norm ?_
        refine wpIn_ret ?_
        refine t_ret ?_
        refine b_ret ?_
        refine ⟨KeepsFrom.of_grownBy (grownBy_setCell' W b7 _) (fun j e => by cases e; exact hlt3), rfl, pre, x, rfl, ?_, hI2, hI3, ?_⟩
        · have := of_decide_eq_true hlong; omega
        · rw [hSS]; exact okW
      · refine wpIn_skip ?_
        refine t_norm ?_
        have hshort : (jf N p_0 o64 pre).length ≤ 20000 := by have := of_decide_eq_false hlong; omega
        refine wpIn_seq ?_
        refine r_region ?_
        refine r_val E okW (y_fieldAddr fo_23_3 rfl) (by intro c h; cases h) rfl rfl fun a' E => ?_
        refine r_val E okW (y_load one_9 rfl (Holds.own 3 rfl rfl)) (by intro c h; cases h) rfl rfl fun a' E => ?_
        refine r_val E okW (y_assign rfl) (by intro c h; cases h) rfl rfl fun a' E => ?_
        refine wpListIn_nil ?_
        refine t_norm ?_
        refine wpIn_seq ?_
        refine wpIn_seq ?_
        refine r_region ?_
        refine r_val E okW (y_move rfl) (by intro c h; cases h) rfl rfl fun a' E => ?_
        refine r_val E okW (y_eql rfl rfl) (by intro c h; cases h) rfl rfl fun a' E => ?_
        refine wpListIn_nil ?_
        refine t_norm ?_
        refine wpIn_mono (Q := fun e a w => e = .normal ∧ w = W ∧ Env 66 a [(9, Value.string (bs (jpat p_0 x.1.1))), (8, Value.string (bs x.1.2)), (4, (Value.pointer (some ⟨b7, 0, none⟩))), (6, (Value.pointer (some ⟨b112, 0, none⟩)))]) ?_ ?_
        · refine r_if E rfl (fun h0 => ?_) (fun h0 => ?_)
          · have hx0 : x.1.1 = 0 := by have := eq_of_beq h0; omega
            refine r_region ?_
            refine r_val E okW (y_fieldAddr fo_23_2 rfl) (by intro c h; cases h) rfl rfl fun a' E => ?_
            refine r_val E okW (y_load one_9 rfl (Holds.own 3 rfl rfl)) (by intro c h; cases h) rfl rfl fun a' E => ?_
            refine r_val E okW (y_assign rfl) (by intro c h; cases h) rfl rfl fun a' E => ?_
            refine wpListIn_nil ?_
            refine ⟨rfl, rfl, ?_⟩
            have e : jpat p_0 x.1.1 = p_0.Start := by unfold jpat; rw [if_pos hx0]
            rw [e]
            exact E.keep [9, 8, 4, 6]
          · have hx0 : ¬ x.1.1 = 0 := fun e => by rw [e] at h0; exact absurd h0 (by decide)
            refine wpIn_skip ?_
            refine ⟨rfl, rfl, ?_⟩
            have e : jpat p_0 x.1.1 = p_0.Middle := by unfold jpat; rw [if_neg hx0]
            rw [e]
            exact E.keep [9, 8, 4, 6]
        · rintro e a' w' ⟨rfl, rfl, E⟩
          refine t_norm ?_
          obtain ⟨r1, hr1, hr2⟩ := fill_some (N := N) (pat := jpat p_0 x.1.1) (a := x.1.2) (b := jf N p_0 o64 pre) (by unfold jpat; split <;> assumption) x.2 hshort
          have lp : (jpat p_0 x.1.1).length ≤ LIMS := by unfold jpat; split <;> assumption
          have hG' : Glob w' := by
            obtain ⟨mx, hmx⟩ := hG
            exact ⟨mx, okW.glob hmx⟩
          refine r_region ?_
          refine r_val E okW (y_move rfl) (by intro c h; cases h) rfl rfl fun a' E => ?_
          refine r_val E okW (y_move rfl) (by intro c h; cases h) rfl rfl fun a' E => ?_
          refine r_val E okW (y_load one_9 rfl (Holds.own 1 rfl rfl)) (by intro c h; cases h) rfl rfl fun a' E => ?_
          refine r_call E go_22 rfl (list_fill_w N (jpat p_0 x.1.1) lp x.1.2 lx (jf N p_0 o64 pre) lf hr1 hG' (Ok.start w')) rfl rfl ?_
          rintro _ W1 ⟨⟨rfl, ok1⟩, l62⟩
          refine ⟨_, rfl, fun a' E => ?_⟩
          have bel := ok1.below
          have okW1 := okW.below' bel
          refine r_store1 E okW1 1 rfl rfl rfl inf_9 rfl rfl rfl rfl fun okW2 => ?_
          refine wpListIn_nil ?_
          refine b_norm ?_
          have hW1 : KeepsFrom w.heap.size w' W1 := ⟨bel.size, fun k o _ hk _ => (bel.block k (Array.getElem?_eq_some_iff.1 hk).1).trans hk⟩
          have e : jf N p_0 o64 (pre ++ [x]) = r1 := by rw [jf_snoc, hr1]; rfl
          have hb1w : b121 < w'.heap.size := (Array.getElem?_eq_some_iff.1 (okW.own _ (List.mem_flatten.2 ⟨_, List.mem_of_getElem? (i := 0) rfl, List.mem_singleton.2 rfl⟩)).1).1
          have hbw' : b < w'.heap.size := (Array.getElem?_eq_some_iff.1 (okW.ro b ob hmb)).1
          have hg := grownBy_setCell' W1 b112 (Value.string (bs r1))
          refine ⟨hW1.trans (KeepsFrom.of_grownBy hg (fun j e => by cases e; exact hlt2)), ⟨?_, ?_⟩, ?_, ?_, ?_⟩
          · rw [hg.block b121 (Nat.lt_of_lt_of_le hb1w bel.size) (by simpa using hb12)]; exact bel.block _ hb1w
          · rw [hg.block b (Nat.lt_of_lt_of_le hbw' bel.size) (by simpa using hb2.symm)]; exact bel.block _ hbw'
          · rw [hSS, e]; exact okW2
          · rw [e]; exact hr2
          · intro j hj
            rw [List.length_append, List.length_singleton] at hj
            by_cases hj' : j < pre.length
            · rw [List.take_append_of_le_length (by omega)]; exact hI3 j hj'
            · obtain rfl : j = pre.length := by omega
              rw [List.take_left]; exact hshort
    · -- all rounds are over
      rintro D xs W hD rfl ⟨okW, hI2, hI3⟩ hDef
      have hda := E.d
      have lf : (jf N p_0 o64 (bk l113 hM l113.length)).length ≤ LIMS := by unfold LIMS; omega
      have hres : r = jf N p_0 o64 (bk l113 hM l113.length) := by
        have h := jrun_bk (N := N) (o := o64) hst hmi l113 hM l113.length (Nat.le_refl _) (fun j hj => by have := hI3 j (by rw [bk_length]; exact hj); rwa [bk_take l113 hM (by omega)] at this)
        rw [hF, Nat.sub_self, jrun] at h
        exact Option.some.inj h
      rw [hSS] at okW
      refine b_norm ?_
      refine t_norm ?_
      refine wp_seq ?_
      refine c_region ?_
      refine d_val E okW (y_load one_9 rfl (Holds.own 1 rfl rfl)) rfl rfl fun a' E => ?_
      refine d_store1 E okW 2 rfl rfl rfl inf_9 rfl rfl rfl rfl fun okW2 => ?_
      refine wpList_nil ?_
      refine t_norm ?_
      refine wp_ret ?_
      have hg := grownBy_setCell' W b7 (Value.string (bs (jf N p_0 o64 (bk l113 hM l113.length))))
      have hDlt : D < W.heap.size := (Array.getElem?_eq_some_iff.1 hDef).1
      have hDef2 : (W.setCell ⟨b7, 0, none⟩ (Value.string (bs (jf N p_0 o64 (bk l113 hM l113.length))))).heap[D]? = some (.deferred (some [])) := (hg.block D hDlt (by simp only [ne_eq, Option.some.injEq]; omega)).trans hDef
      have ok3 : Ok u m0 (SS (jf N p_0 o64 (bk l113 hM l113.length)) (jf N p_0 o64 (bk l113 hM l113.length))) ((W.setCell ⟨b7, 0, none⟩ (Value.string (bs (jf N p_0 o64 (bk l113 hM l113.length))))).putObj D (.deferred none)) :=
        hgrow (by rw [hSS]; exact okW2) (grownBy_putObj' _ D _) (fun r e => by cases e; exact ⟨hD, _, hDef2, rfl⟩)
      rw [hSS] at ok3
      have hr : list_join_R u m0 S r a' ((W.setCell ⟨b7, 0, none⟩ (Value.string (bs (jf N p_0 o64 (bk l113 hM l113.length))))).putObj D (.deferred none)) := by
        rw [hres]
        exact ⟨ok3.drop.drop.drop.drop, E.d, ⟨rv_c1 E ok3 rfl one_9 (Holds.own 2 rfl rfl), trivial⟩, lf⟩
      obtain ⟨q1, q2, q3, q4⟩ := hr
      have hbp : bodyPost Tryd.prog Tryd.f20 (fun e w' => (e = .returned (.string (bs r)) ∧ Ok u m0 S w') ∧ r.length ≤ LIMS) .ret a' _ := c_ret2 [.c 4 9 (.string (bs r))] q2 rfl q3 ⟨⟨rfl, q1⟩, q4⟩
      have hh := leaveD (F := Fence.wide) (n := 3) E.d hDef2 hbp
      rw [E.d] at hh
      rw [hda]
      exact hh
    · -- the round that went out
      rintro D c pre W hD ⟨k, hk, rfl⟩ ⟨rfl, pre0, x, hpre, hlong, hI2, hI3, okW⟩ hDef
      have hk0 : k = pre0.length + 1 := by have := congrArg List.length hpre; rw [bk_length, List.length_append, List.length_singleton] at this; exact this
      have hp0 : pre0 = bk l113 hM pre0.length := by
        have := congrArg (List.take pre0.length) hpre
        rw [bk_take l113 hM (by omega), List.take_left] at this
        exact this.symm
      have lf : (jf N p_0 o64 pre0).length ≤ LIMS := by unfold LIMS; omega
      have hres : r = jf N p_0 o64 pre0 := by
        have h := jrun_bk (N := N) (o := o64) hst hmi l113 hM pre0.length (by omega) (fun j hj => by have := hI3 j hj; rwa [hp0, bk_take l113 hM (by omega)] at this)
        rw [hF, ← hp0, show l113.length - pre0.length = (l113.length - pre0.length - 1) + 1 by omega, jrun, if_pos hlong] at h
        exact Option.some.inj h
      rw [hSS] at okW
      refine wpIn_ret ?_
      refine b_ret ?_
      refine t_ret ?_
      have ok3 : Ok u m0 (SS (jf N p_0 o64 pre0) (jf N p_0 o64 pre0)) (W.putObj D (.deferred none)) :=
        hgrow (by rw [hSS]; exact okW) (grownBy_putObj' _ D _) (fun r e => by cases e; exact ⟨hD, _, hDef, rfl⟩)
      rw [hSS] at ok3
      have hr : list_join_R u m0 S r a (W.putObj D (.deferred none)) := by
        rw [hres]
        exact ⟨ok3.drop.drop.drop.drop, E.d, ⟨rv_c1 E ok3 rfl one_9 (Holds.own 2 rfl rfl), trivial⟩, lf⟩
      obtain ⟨q1, q2, q3, q4⟩ := hr
      have hbp : bodyPost Tryd.prog Tryd.f20 (fun e w' => (e = .returned (.string (bs r)) ∧ Ok u m0 S w') ∧ r.length ≤ LIMS) .ret a _ := c_ret2 [.c 4 9 (.string (bs r))] q2 rfl q3 ⟨⟨rfl, q1⟩, q4⟩
      exact leaveD E.d hDef hbp
  replace hF := hJ
  clear hJ
  obtain ⟨x67, e68, hF⟩ := bnd hF
  obtain ⟨x77, e78, hF⟩ := bnd hF
  obtain ⟨r87, e88, hF⟩ := bnd hF
  obtain rfl := Option.some.inj hF
  refine k_begin [] (Cls u m0 ([(b7, Obj.cells [(Value.string (bs ([])))].toArray 9 (0, 0))] :: [(b6, Obj.cells [(Value.string (bs p_0.Style)), (Value.string (bs p_0.Two)), (Value.string (bs p_0.Start)), (Value.string (bs p_0.Middle)), (Value.string (bs p_0.End))].toArray 23 (0, 0))] :: [])) (Cls u m0 ([(b7, Obj.cells [(Value.string (bs ([])))].toArray 9 (0, 0))] :: [(b6, Obj.cells [(Value.string (bs p_0.Style)), (Value.string (bs p_0.Two)), (Value.string (bs p_0.Start)), (Value.string (bs p_0.Middle)), (Value.string (bs p_0.End))].toArray 23 (0, 0))] :: [])) (by kernel_rfl) ?_
  intro w hw
  replace ok := okdrew ok hw
  clear hw
  refine k_next (cl1 ⟨m0, _, le_m0, ok, ⟨memAt 0 rfl, memAt 1 rfl, trivial⟩⟩ ⟨m0, _, le_m0, ok, ⟨memAt 0 rfl, memAt 1 rfl, trivial⟩⟩) fun hT => ?_
  refine k_take 0 E rfl (by kernel_rfl) nP hT (y_fieldAddr fo_23_4 rfl) rfl rfl fun a E => ?_
  refine k_take 1 E rfl (by kernel_rfl) nP hT (y_load one_9 rfl (Holds.cown 1 rfl rfl)) rfl rfl fun a E => ?_
  refine k_take 2 E rfl (by kernel_rfl) nP hT (y_move rfl) rfl rfl fun a E => ?_
  refine k_take 3 E rfl (by kernel_rfl) nP hT (y_move rfl) rfl rfl fun a E => ?_
  refine k_take 4 E rfl (by kernel_rfl) nP hT (y_subw rfl rfl) rfl rfl fun a E => ?_
  obtain ⟨b91, o92, es93, hl94, rr95, at96, yy97⟩ := idxAt sl_24 hitems_1 e68 (P := Tryd.prog) (X := .tmp 33) (I := .tmp 35) (kd := .i64) (ev_of E rfl) (ev_of E rfl)
  obtain ⟨rfl, l98⟩ := rr95
  refine k_take 5 E rfl (by kernel_rfl) nP hT (yy97 _ _) rfl rfl fun a E => ?_
  refine k_take 6 E rfl (by kernel_rfl) nP hT (y_load one_9 rfl (Holds.cro at96)) rfl rfl fun a E => ?_
  refine k_take 7 E rfl (by kernel_rfl) nP hT (y_move rfl) rfl rfl fun a E => ?_
  refine k_take 8 E rfl (by kernel_rfl) nP hT (y_move rfl) rfl rfl fun a E => ?_
  refine k_take 9 E rfl (by kernel_rfl) nP hT (y_subw rfl rfl) rfl rfl fun a E => ?_
  obtain ⟨b99, o100, es101, hl102, rr103, at104, yy105⟩ := idxAt sl_24 hitems_1 e78 (P := Tryd.prog) (X := .tmp 38) (I := .tmp 40) (kd := .i64) (ev_of E rfl) (ev_of E rfl)
  obtain ⟨rfl, l106⟩ := rr103
  refine k_take 10 E rfl (by kernel_rfl) nP hT (yy105 _ _) rfl rfl fun a E => ?_
  refine k_take 11 E rfl (by kernel_rfl) nP hT (y_load one_9 rfl (Holds.cro at104)) rfl rfl fun a E => ?_
  refine k_all [12, 13] (by kernel_rfl) rfl (all_c ?_ (all_c ?_ (all_n)))
  · refine wpOp_of_list (o := _) rfl ?_
    refine l_call E go_22 rfl (list_fill_w N p_0.End l5 x67 l98 x77 l106 e88 hG ok) rfl rfl ?_
    rintro _ w ⟨⟨rfl, ok⟩, l107⟩
    refine ⟨_, rfl, fun a E => ?_⟩
    refine wpList_nil ?_
    refine t_norm ?_
    refine k_next (cl1 ⟨m0, _, le_m0, ok, ⟨memAt 0 rfl, memAt 1 rfl, trivial⟩⟩ ⟨m0, _, le_m0, ok, ⟨memAt 0 rfl, memAt 1 rfl, trivial⟩⟩) fun hT => ?_
    refine k_all [13] (by kernel_rfl) rfl (one_c ?_)
    · refine wpOp_of_list (o := _) rfl ?_
      refine l_alloc E ok zero_9 rfl rfl fun b108 a w E ok => ?_
      refine wpList_nil ?_
      refine t_norm ?_
      refine k_next (cl1 ⟨m0, _, le_m0, ok, ⟨memAt 1 rfl, memAt 2 rfl, trivial⟩⟩ ⟨m0, _, le_m0, ok, ⟨memAt 1 rfl, memAt 2 rfl, trivial⟩⟩) fun hT => ?_
      refine k_all [14] (by kernel_rfl) rfl (one_c ?_)
      · refine wpOp_of_list (o := _) rfl ?_
        refine l_storeB E ok 0 rfl rfl rfl inf_9 rfl rfl ⟨rfl, trivial⟩ rfl rfl fun w ok => ?_
        refine wpList_nil ?_
        refine t_norm ?_
        refine k_next (cl1 ⟨m0, _, le_m0, ok, ⟨memAt 1 rfl, memAt 2 rfl, trivial⟩⟩ ⟨m0, _, le_m0, ok, ⟨memAt 1 rfl, memAt 2 rfl, trivial⟩⟩) fun hT => ?_
        refine k_done (by kernel_rfl) ?_
        exact ⟨rfl, ⟨b108, ok, E.keep [1, 2, 4, 5, 6], l107⟩⟩
  refine wpOp_of_list (o := _) rfl ?_
  refine l_alloc E ok zero_9 rfl rfl fun b109 a w E ok => ?_
  refine wpList_nil ?_
  refine t_norm ?_
  refine k_next (cl1 ⟨m0, _, le_m0, ok, ⟨memAt 1 rfl, memAt 2 rfl, trivial⟩⟩ ⟨m0, _, le_m0, ok, ⟨memAt 1 rfl, memAt 2 rfl, trivial⟩⟩) fun hT => ?_
  refine k_all [12] (by kernel_rfl) rfl (one_c ?_)
  · refine wpOp_of_list (o := _) rfl ?_
    refine l_call E go_22 rfl (list_fill_w N p_0.End l5 x67 l98 x77 l106 e88 hG ok) rfl rfl ?_
    rintro _ w ⟨⟨rfl, ok⟩, l110⟩
    refine ⟨_, rfl, fun a E => ?_⟩
    refine wpList_nil ?_
    refine t_norm ?_
    refine k_next (cl1 ⟨m0, _, le_m0, ok, ⟨memAt 1 rfl, memAt 2 rfl, trivial⟩⟩ ⟨m0, _, le_m0, ok, ⟨memAt 1 rfl, memAt 2 rfl, trivial⟩⟩) fun hT => ?_
    refine k_all [14] (by kernel_rfl) rfl (one_c ?_)
    · refine wpOp_of_list (o := _) rfl ?_
      refine l_storeB E ok 0 rfl rfl rfl inf_9 rfl rfl ⟨rfl, trivial⟩ rfl rfl fun w ok => ?_
      refine wpList_nil ?_
      refine t_norm ?_
      refine k_next (cl1 ⟨m0, _, le_m0, ok, ⟨memAt 1 rfl, memAt 2 rfl, trivial⟩⟩ ⟨m0, _, le_m0, ok, ⟨memAt 1 rfl, memAt 2 rfl, trivial⟩⟩) fun hT => ?_
      refine k_done (by kernel_rfl) ?_
      exact ⟨rfl, ⟨b109, ok, E.keep [1, 2, 4, 5, 6], l110⟩⟩

end Go.Proofs.YtnmiodonophfbaaDoor
