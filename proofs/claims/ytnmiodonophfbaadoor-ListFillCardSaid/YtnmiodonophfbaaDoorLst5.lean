/- The laws of chapter 16. -/
import Derived.Test.YtnmiodonophfbaaDoorLst4
set_option linter.unusedVariables false
namespace Go.Proofs.YtnmiodonophfbaaDoor
open Go.X

theorem wrap_b {z : Int} (h1 : -4611686018427387904 ≤ z) (h2 : z ≤ 4611686018427387904) : IntKind.wrap .i64 z = z := wrap_of (inR_i64.2 ⟨by omega, by omega⟩)
/-! ### Few -/
structure Rb (p : ListPattern) (items : List (List UInt8)) : Prop where
  s : p.Style.length ≤ reachBytes
  two : p.Two.length ≤ reachBytes
  st : p.Start.length ≤ reachBytes
  md : p.Middle.length ≤ reachBytes
  en : p.End.length ≤ reachBytes
  i : ∀ y ∈ items, y.length ≤ reachBytes
theorem few_run : ∀ (xs : List (List UInt8)) (n : Nat), (∀ x ∈ xs, x.length ≤ 140737488355328) → n + xs.length * 140737488355328 ≤ 5770237022568448 →
    run (σ := Int) (β := Int) (fun n x => .inl (IntKind.wrap .i64 (n + (x.length : Int)))) (fun n => n) (n : Int) xs = ((n + wgt xs : Nat) : Int)
  | [], n, _, _ => rfl
  | x :: xs, n, h, hb => by
    have hx := h x (by simp)
    simp only [List.length_cons] at hb
    rw [run]
    simp only
    rw [wrap_b (by omega) (by omega), show (n : Int) + (x.length : Int) = ((n + x.length : Nat) : Int) by omega, few_run xs (n + x.length) (fun y hy => h y (by simp [hy])) (by omega)]
    unfold wgt
    rw [List.map_cons, List.sum_cons]
    congr 1; omega
theorem Few_eq {N : Nat} {p : ListPattern} {items : List (List UInt8)} (R : Rb p items) (hN : items.length < N) : ∃ b, calqueref16_Few N p items = some b ∧ (b = true → Lp p items ∧ p.Style.length ≤ 400 ∧ p.Two.length + p.Start.length + p.Middle.length + p.End.length ≤ 400) := by
  have r1 := R.s
  have r2 := R.two
  have r3 := R.st
  have r4 := R.md
  have r5 := R.en
  unfold reachBytes at r1 r2 r3 r4 r5
  have hl := iter_list' (body := fun s => calqueref16_Few_b1 N items s.1 s.2) (σ := Int) (fun n k => (n, k)) items (fun n x => .inl (IntKind.wrap .i64 (n + (x.length : Int)))) (fun n => n) (fun n k x hk => ?_) (fun n => ?_) N 0 hN
  · unfold calqueref16_Few
    rw [hl]
    simp only [Option.bind_some]
    rw [wrap_b (z := (p.Style.length : Int) + (p.Two.length : Int)) (by omega) (by omega), wrap_b (z := (p.Style.length : Int) + (p.Two.length : Int) + (p.Start.length : Int)) (by omega) (by omega), wrap_b (z := (p.Style.length : Int) + (p.Two.length : Int) + (p.Start.length : Int) + (p.Middle.length : Int)) (by omega) (by omega), wrap_b (by omega) (by omega)]
    by_cases h1 : (p.Style.length : Int) + (p.Two.length : Int) + (p.Start.length : Int) + (p.Middle.length : Int) + (p.End.length : Int) ≤ 400
    · rw [decide_eq_true h1, cond_true]
      by_cases h2 : run (σ := Int) (β := Int) (fun n x => .inl (IntKind.wrap .i64 (n + (x.length : Int)))) (fun n => n) 0 items ≤ 30000
      · rw [decide_eq_true h2, cond_true]
        refine ⟨_, rfl, fun h => ?_⟩
        have h3 := of_decide_eq_true h
        have h4 := few_run items 0 (fun x hx => by have := R.i x hx; unfold reachBytes at this; omega) (by omega)
        rw [show ((0 : Nat) : Int) = 0 from rfl] at h4
        rw [h4] at h2
        exact ⟨⟨by omega, by omega, by omega, by omega, by omega, by omega⟩, by omega, by omega⟩
      · rw [decide_eq_false h2, cond_false]
        exact ⟨false, rfl, fun h => by cases h⟩
    · rw [decide_eq_false h1, cond_false]
      exact ⟨false, rfl, fun h => by cases h⟩
  · show calqueref16_Few_b1 N items n k = _
    unfold calqueref16_Few_b1
    simp only [dltx hk, cond_true, idx_some hk, Option.bind_some]
  · show calqueref16_Few_b1 N items n items.length = _
    unfold calqueref16_Few_b1
    simp only [dnlt, cond_false]
theorem awk {N : Nat} (h : 3000 ≤ N) : calquelaw16_awake N = some true := by
  obtain ⟨M, rfl⟩ : ∃ M, N = M + 3000 := ⟨N - 3000, by omega⟩
  exact awake_eq M
theorem loc_eq (N : Nat) (p : ListPattern) : calquelaw16_loc N p = some (lc p) := rfl
theorem listJoin_law (p : ListPattern) (style : List UInt8) (items : List (List UInt8)) (R : Rb p items) : ∃ N, calquelaw16_ListJoin N p style items = some true := by
  refine ⟨items.length + 60000, ?_⟩
  generalize hNN : items.length + 60000 = N
  have aw := awk (N := N) (by omega)
  unfold calquelaw16_ListJoin
  rw [aw]
  simp only [Option.bind_some, Bool.not_true, cond_false]
  obtain ⟨b, hb, hL⟩ := Few_eq (N := N) R (by omega)
  rw [hb]
  simp only [Option.bind_some]
  cases b with
  | false => rfl
  | true =>
  obtain ⟨L, _, _⟩ := hL rfl
  simp only [Bool.not_true, cond_false]
  by_cases hs : (style.length : Int) > 60
  · rw [decide_eq_true hs]; rfl
  · rw [decide_eq_false hs, cond_false]
    obtain ⟨r, h1, h2⟩ := ref_Join_eq (N := N) (by omega) L style
    simp only [loc_eq, Option.bind_some, h1, h2]
    simp

/-! ### elements -/
def Inf (t s : List UInt8) : Prop := ∃ u v, s = u ++ (t ++ v)
theorem Inf.refl (t : List UInt8) : Inf t t := ⟨[], [], by simp⟩
theorem Inf.trans {a b c : List UInt8} (h : Inf a b) (k : Inf b c) : Inf a c := by
  obtain ⟨u, v, rfl⟩ := h
  obtain ⟨u', v', rfl⟩ := k
  exact ⟨u' ++ u, v ++ v', by simp⟩
theorem contains_true {N : Nat} {s t : List UInt8} (h : Inf t s) (hs : s.length ≤ 100000) (hN : s.length < N) : calquelaw16_contains N s t = some true := by
  obtain ⟨u, v, e⟩ := h
  have hl : s.length = u.length + t.length + v.length := by rw [e]; simp; omega
  have key : ∀ j i M, i + j = u.length → j < M → iter (fun k => calquelaw16_contains_b1 N s t k) M (i : Int) = some (.inr true) := by
    intro j
    induction j with
    | zero =>
      intro i M hi hM
      obtain ⟨M, rfl⟩ : ∃ M', M = M' + 1 := ⟨M - 1, by omega⟩
      have e1 : calquelaw16_contains_b1 N s t (i : Int) = some (.inr (.inr true)) := by
        unfold calquelaw16_contains_b1
        rw [wrap_id (by omega) (by omega), decide_eq_true (show (i : Int) + (t.length : Int) ≤ (s.length : Int) by omega), cond_true, show (i : Int) + (t.length : Int) = ((i + t.length : Nat) : Int) by omega, slc_some (by omega) (by omega)]
        have e2 : (s.drop i).take (i + t.length - i) = t := by
          rw [show i = u.length by omega, e, List.drop_left, show u.length + t.length - u.length = t.length by omega, List.take_left]
        rw [e2]
        simp
      rw [iter, e1]
    | succ j ih =>
      intro i M hi hM
      obtain ⟨M, rfl⟩ : ∃ M', M = M' + 1 := ⟨M - 1, by omega⟩
      have e1 : calquelaw16_contains_b1 N s t (i : Int) = some (if ((s.drop i).take (i + t.length - i) == t) then .inr (.inr true) else .inl ((i + 1 : Nat) : Int)) := by
        unfold calquelaw16_contains_b1
        rw [wrap_id (by omega) (by omega), decide_eq_true (show (i : Int) + (t.length : Int) ≤ (s.length : Int) by omega), cond_true, show (i : Int) + (t.length : Int) = ((i + t.length : Nat) : Int) by omega, slc_some (by omega) (by omega)]
        simp only [Option.bind_some]
        rw [wrap_id (by omega) (by omega)]
        cases ((s.drop i).take (i + t.length - i) == t) <;> rfl
      rw [iter, e1]
      cases ((s.drop i).take (i + t.length - i) == t) with
      | true => rfl
      | false =>
        simp only [Bool.false_eq_true, if_false]
        exact ih (i + 1) M (by omega) (by omega)
  have := key u.length 0 N (by omega) (by omega)
  unfold calquelaw16_contains
  rw [show (0 : Int) = ((0 : Nat) : Int) from rfl, this]
  rfl
section
variable {p : ListPattern} {two st md en : FF}
theorem foldr_e (F : Fils p two st md en) : ∀ (zs : List (List UInt8)) (e : List UInt8), Inf e (zs.foldr md e)
  | [], e => Inf.refl e
  | z :: zs, e => (foldr_e F zs e).trans (F.md.ib z _)
theorem foldr_z (F : Fils p two st md en) : ∀ (zs : List (List UInt8)) (e x : List UInt8), x ∈ zs → Inf x (zs.foldr md e)
  | z :: zs, e, x, h => by
    rcases List.mem_cons.1 h with rfl | h
    · exact F.md.ia _ _
    · exact (foldr_z F zs e x h).trans (F.md.ib z _)
theorem jn_inf (F : Fils p two st md en) (zs : List (List UInt8)) (e : List UInt8) : Inf e (jn st md zs e) ∧ ∀ x ∈ zs, Inf x (jn st md zs e) := by
  cases zs with
  | nil => exact ⟨Inf.refl e, fun x h => by cases h⟩
  | cons z zs =>
    refine ⟨(foldr_e F zs e).trans (F.st.ib z _), fun x h => ?_⟩
    rcases List.mem_cons.1 h with rfl | h
    · exact F.st.ia _ _
    · exact (foldr_z F zs e x h).trans (F.st.ib z _)
theorem last_two {l : List (List UInt8)} (h : 2 ≤ l.length) : l = l.take (l.length - 2) ++ [l[l.length - 2]?.getD [], l[l.length - 1]?.getD []] := by
  conv => lhs; rw [← List.take_append_drop (l.length - 2) l]
  congr 1
  rw [List.drop_eq_getElem_cons (show l.length - 2 < l.length by omega), List.drop_eq_getElem_cons (show l.length - 2 + 1 < l.length by omega), List.drop_eq_nil_of_le (by omega), List.getElem?_eq_getElem (show l.length - 2 < l.length by omega), List.getElem?_eq_getElem (show l.length - 1 < l.length by omega)]
  simp only [Option.getD_some]
  congr 3; omega
theorem tx_three {items : List (List UInt8)} (h : 3 ≤ items.length) : tx two st md en items = jn st md (items.take (items.length - 2)) (en (items[items.length - 2]?.getD []) (items[items.length - 1]?.getD [])) := by
  match items, h with
  | a :: b :: c :: l, _ => rfl
theorem tx_inf (F : Fils p two st md en) (items : List (List UInt8)) : ∀ x ∈ items, Inf x (tx two st md en items) := by
  intro x hx
  by_cases h : 3 ≤ items.length
  · rw [tx_three h]
    obtain ⟨h1, h2⟩ := jn_inf F (items.take (items.length - 2)) (en (items[items.length - 2]?.getD []) (items[items.length - 1]?.getD []))
    rw [last_two (l := items) (by omega)] at hx
    rcases List.mem_append.1 hx with hx | hx
    · exact h2 x hx
    · simp only [List.mem_cons, List.not_mem_nil, or_false] at hx
      rcases hx with rfl | rfl
      · exact Inf.trans (F.en.ia _ _) h1
      · exact Inf.trans (F.en.ib _ _) h1
  · match items, h with
    | [], _ => cases hx
    | [a], _ =>
      simp only [List.mem_cons, List.not_mem_nil, or_false] at hx
      subst hx; exact Inf.refl _
    | [a, b], _ =>
      simp only [List.mem_cons, List.not_mem_nil, or_false] at hx
      rcases hx with rfl | rfl
      · exact F.two.ia _ _
      · exact F.two.ib _ _
    | a :: b :: c :: l, h => exact absurd (by simp) h
theorem foldr_len (F : Fils p two st md en) : ∀ (zs : List (List UInt8)) (e : List UInt8), (zs.foldr md e).length = zs.length * (p.Middle.length - 6) + wgt zs + e.length
  | [], e => by simp [wgt]
  | z :: zs, e => by
    have h := F.md.len z (zs.foldr md e)
    have h6 := F.md.six
    have ih := foldr_len F zs e
    simp only [List.foldr_cons, List.length_cons]
    unfold wgt at ih ⊢
    rw [List.map_cons, List.sum_cons, Nat.add_mul]
    omega
theorem tx_len {items : List (List UInt8)} (F : Fils p two st md en) (h : 3 ≤ items.length) : (tx two st md en items).length = (p.Start.length - 6) + (p.End.length - 6) + (items.length - 3) * (p.Middle.length - 6) + wgt items := by
  rw [tx_three h]
  have hw : wgt items = wgt (items.take (items.length - 2)) + ((items[items.length - 2]?.getD []).length + (items[items.length - 1]?.getD []).length) := by
    conv => lhs; rw [last_two (l := items) (by omega)]
    unfold wgt; simp
  have he := F.en.len (items[items.length - 2]?.getD []) (items[items.length - 1]?.getD [])
  have he6 := F.en.six
  have hs6 := F.st.six
  rw [hw]
  generalize en (items[items.length - 2]?.getD []) (items[items.length - 1]?.getD []) = e at *
  cases hz : items.take (items.length - 2) with
  | nil => have := congrArg List.length hz; rw [List.length_take, List.length_nil] at this; omega
  | cons z zs =>
    have hzl : zs.length = items.length - 3 := by have := congrArg List.length hz; rw [List.length_take, List.length_cons] at this; omega
    have hs := F.st.len z (zs.foldr md e)
    have hf := foldr_len F zs e
    show (st z (zs.foldr md e)).length = _
    unfold wgt at hf ⊢
    rw [List.map_cons, List.sum_cons]
    rw [hzl] at hf
    omega
theorem ans_cases (t : List UInt8) : (t.length ≤ 20000 ∧ ans t = (t, 0)) ∨ ans t = ([], 6) := by
  unfold ans
  by_cases h : 20000 < t.length
  · rw [if_pos h]; exact .inr rfl
  · rw [if_neg h]; exact .inl ⟨by omega, rfl⟩
end
theorem Join_style {N : Nat} {p : ListPattern} {items : List (List UInt8)} (hN : 3000 ≤ N) (L : Lp p items) : list_Join N (lc p) p.Style items = some ([], 4) ∨ ∃ two st md en, Fils p two st md en ∧ vps p = true ∧ list_Join N (lc p) p.Style items = some (ans (tx two st md en items)) := by
  cases hv : vps p with
  | false => exact .inl (by rw [Join_prog hN L, hv]; simp)
  | true =>
    obtain ⟨two, st, md, en, F⟩ := L.fils hv
    exact .inr ⟨two, st, md, en, F, rfl, Join_ok hN L F hv (by simp)⟩
theorem elems_run : ∀ (xs : List (List UInt8)) (n : Nat), n + wgt xs ≤ 100000 → run (σ := Int) (β := Int ⊕ Bool) (fun n x => .inl (IntKind.wrap .i64 (n + (x.length : Int)))) (fun n => .inl n) (n : Int) xs = .inl ((n + wgt xs : Nat) : Int)
  | [], n, _ => rfl
  | x :: xs, n, hb => by
    have hw : wgt (x :: xs) = x.length + wgt xs := by unfold wgt; rw [List.map_cons, List.sum_cons]
    rw [hw] at hb ⊢
    rw [run]
    simp only
    rw [wrap_b (by omega) (by omega), show (n : Int) + (x.length : Int) = ((n + x.length : Nat) : Int) by omega, elems_run xs (n + x.length) (by omega)]
    congr 2; omega
theorem listElements_law (p : ListPattern) (items : List (List UInt8)) (R : Rb p items) : ∃ N, calquelaw16_ListElements N p items = some true := by
  refine ⟨items.length + 60000, ?_⟩
  generalize hNN : items.length + 60000 = N
  have aw := awk (N := N) (by omega)
  unfold calquelaw16_ListElements
  rw [aw]
  simp only [Option.bind_some, Bool.not_true, cond_false]
  obtain ⟨b, hb, hL⟩ := Few_eq (N := N) R (by omega)
  rw [hb]
  simp only [Option.bind_some]
  cases b with
  | false => rfl
  | true =>
  obtain ⟨L, _, hq⟩ := hL rfl
  simp only [Bool.not_true, cond_false, loc_eq, Option.bind_some]
  rcases Join_style (N := N) (by omega) L with h | ⟨two, st, md, en, F, hv, h⟩
  · rw [h]; rfl
  · rw [h]
    simp only [Option.bind_some]
    have hshort := ans_cases (tx two st md en items)
    have hinf := tx_inf F items
    have hlen3 : 3 ≤ items.length → _ := tx_len F (items := items)
    have hlen2 : ∀ a b, items = [a, b] → (tx two st md en items).length + 6 = p.Two.length + a.length + b.length := fun a b e => by rw [e]; exact F.two.len a b
    have h26 := F.two.six
    have hs6 := F.st.six
    have hm6 := F.md.six
    have he6 := F.en.six
    have h0 : items = [] → tx two st md en items = [] := fun e => by rw [e]; rfl
    have h1 : ∀ a, items = [a] → tx two st md en items = a := fun a e => by rw [e]; rfl
    generalize tx two st md en items = t at *
    rcases hshort with ⟨ht, e⟩ | e
    · rw [e]
      simp only
      rw [show ((0 : Int) != 0) = false from rfl, cond_false]
      have hN20 : t.length < N := by omega
      have hl := iter_list' (body := fun s => calquelaw16_ListElements_b1 N items (t, 0) s.1 s.2) (σ := Int) (fun n k => (n, k)) items (fun n x => .inl (IntKind.wrap .i64 (n + (x.length : Int)))) (fun n => .inl n) (fun n k x hk => ?_) (fun n => ?_) N 0 (by omega)
      · have hw := L.w
        have hn := L.n
        have e4 := elems_run items 0 (by omega)
        rw [show ((0 : Nat) : Int) = 0 from rfl] at e4
        rw [hl, e4]
        simp only [Option.bind_some, Sum.elim_inl, Nat.zero_add]
        by_cases c2 : items.length = 2
        · rw [show ((items.length : Int) == 2) = true by simp [c2], cond_true]
          simp only [Option.bind_some]
          have h3 := L.two
          rw [wrap_id (z := (p.Two.length : Int) - 6) (by omega) (by omega), wrap_id (by omega) (by omega)]
          match items, c2 with
          | [a, b], _ =>
            have := hlen2 a b rfl
            have hw2 : wgt [a, b] = a.length + b.length := by simp [wgt]
            congr 1
            rw [beq_iff_eq]
            omega
        · rw [show ((items.length : Int) == 2) = false from beq_eq_false_iff_ne.2 (by omega), cond_false]
          by_cases c3 : 3 ≤ items.length
          · rw [decide_eq_true (show (items.length : Int) > 2 by omega), cond_true]
            simp only [Option.bind_some]
            have e5 := hlen3 c3
            have q1 := L.st
            have q2 := L.md
            have q3 := L.en
            have hmul : (items.length - 3) * (p.Middle.length - 6) ≤ 40 * 1000 := Nat.mul_le_mul (by omega) (by omega)
            have hme : ((items.length : Int) - 3) * ((p.Middle.length : Int) - 6) = (((items.length - 3) * (p.Middle.length - 6) : Nat) : Int) := by
              rw [Int.natCast_mul]
              congr 1 <;> omega
            rw [wrap_id (z := (p.Start.length : Int) + (p.End.length : Int)) (by omega) (by omega), wrap_id (z := (p.Start.length : Int) + (p.End.length : Int) - 12) (by omega) (by omega), wrap_id (z := (items.length : Int) - 3) (by omega) (by omega), wrap_id (z := (p.Middle.length : Int) - 6) (by omega) (by omega), hme]
            generalize (items.length - 3) * (p.Middle.length - 6) = q at *
            rw [wrap_id (z := (q : Int)) (by omega) (by omega), wrap_id (z := (p.Start.length : Int) + (p.End.length : Int) - 12 + (q : Int)) (by omega) (by omega), wrap_id (by omega) (by omega)]
            congr 1
            rw [beq_iff_eq]
            omega
          · rw [decide_eq_false (show ¬ (items.length : Int) > 2 by omega), cond_false]
            simp only [Option.bind_some]
            congr 1
            rw [beq_iff_eq]
            match items, c2, c3 with
            | [], _, _ => rw [h0 rfl]; rfl
            | [a], _, _ => rw [h1 a rfl]; simp [wgt]
            | [a, b], c2, _ => exact absurd rfl c2
            | a :: b :: c :: l, _, c3 => exact absurd (by simp) c3
      · show calquelaw16_ListElements_b1 N items (t, 0) n k = _
        unfold calquelaw16_ListElements_b1
        simp only [dltx hk, cond_true, idx_some hk, Option.bind_some]
        rw [contains_true (hinf x (List.mem_of_getElem? hk)) (by omega) hN20]
        rfl
      · show calquelaw16_ListElements_b1 N items (t, 0) n items.length = _
        unfold calquelaw16_ListElements_b1
        simp only [dnlt, cond_false]
    · rw [e]; rfl

/-! ### steps -/
theorem jn_md (md : FF) (zs : List (List UInt8)) (e : List UInt8) : jn md md zs e = zs.foldr md e := by cases zs <;> rfl
theorem tx_step {two st md en : FF} {a : List UInt8} {l : List (List UInt8)} (h : 3 ≤ l.length) : tx two st md en (a :: l) = st a (tx en md md en l) := by
  rw [tx_three (items := a :: l) (by simp only [List.length_cons]; omega), tx_three h, jn_md]
  have e1 : (a :: l).length - 2 = (l.length - 2) + 1 := by simp only [List.length_cons]; omega
  have e2 : (a :: l).length - 1 = (l.length - 1) + 1 := by simp only [List.length_cons]; omega
  rw [e1, e2]
  rfl
theorem listSteps_law (p : ListPattern) (items : List (List UInt8)) (R : Rb p items) : ∃ N, calquelaw16_ListSteps N p items = some true := by
  refine ⟨items.length + 60000, ?_⟩
  generalize hNN : items.length + 60000 = N
  have aw := awk (N := N) (by omega)
  unfold calquelaw16_ListSteps
  rw [aw]
  simp only [Option.bind_some, Bool.not_true, cond_false]
  obtain ⟨b, hb, hL⟩ := Few_eq (N := N) R (by omega)
  rw [hb]
  simp only [Option.bind_some]
  cases b with
  | false => rfl
  | true =>
  obtain ⟨L, _, hq⟩ := hL rfl
  simp only [Bool.not_true, cond_false, loc_eq, Option.bind_some]
  by_cases c4 : (items.length : Int) < 4
  · rw [decide_eq_true c4]; rfl
  rw [decide_eq_false c4, cond_false]
  rcases Join_style (N := N) (by omega) L with h | ⟨two, st, md, en, F, hv, h⟩
  · rw [h]; rfl
  · rw [h]
    simp only [Option.bind_some]
    match items, c4, L, hNN with
    | a :: l, c4, L, hNN =>
    have hl3 : 3 ≤ l.length := by simp only [List.length_cons] at c4; omega
    have hv' := hv
    unfold vps at hv'
    simp only [Bool.and_eq_true] at hv'
    obtain ⟨v1, v2, v3, v4⟩ := hv'
    have hwl : wgt (a :: l) = a.length + wgt l := by unfold wgt; rw [List.map_cons, List.sum_cons]
    have hw := L.w
    have hn := L.n
    simp only [List.length_cons] at hn
    have L' : Lp (ListPattern.mk [120] p.End p.Middle p.Middle p.End) l := ⟨L.en, L.md, L.md, L.en, by omega, by omega⟩
    have F' : Fils (ListPattern.mk [120] p.End p.Middle p.Middle p.End) en md md en := ⟨F.en, F.md, F.md, F.en⟩
    have hv2 : vps (ListPattern.mk [120] p.End p.Middle p.Middle p.End) = true := by unfold vps; simp [v3, v4]
    have e1 : slc (a :: l) 1 ((a :: l).length : Int) = some l := slc_drop (xs := a :: l) (a := 1) (by simp)
    have e2 : idx (a :: l) 0 = some a := rfl
    have hJ := Join_ok (N := N) (by omega) L' F' hv2 (style := [120]) (by simp)
    rcases ans_cases (tx two st md en (a :: l)) with ⟨ht, e⟩ | e
    · rw [e]
      simp only
      rw [show ((0 : Int) != 0) = false from rfl, cond_false]
      simp only [e1, e2, Option.bind_some]
      rw [hJ]
      simp only [Option.bind_some]
      have hstep := tx_step (two := two) (st := st) (md := md) (en := en) (a := a) hl3
      have hge := (F.st.ge a (tx en md md en l)).1
      rw [← hstep] at hge
      have e3 : ans (tx en md md en l) = (tx en md md en l, 0) := by unfold ans; rw [if_neg (by omega)]
      rw [e3]
      simp only
      have e4 : list_Fill N p.Start a (tx en md md en l) = some (tx two st md en (a :: l), 0) := by
        unfold list_Fill
        rw [validate_eq L.st (by omega), v2]
        simp only [Option.bind_some, Bool.not_true, cond_false]
        rw [F.st.pr N _ _ (by omega) (by omega), hstep]
        rfl
      rw [e4]
      simp
    · rw [e]; rfl

/-! ### one separator -/
theorem sep_fil {sep : List UInt8} (h : vp (p0 ++ (sep ++ p1)) = true) (hs : (p0 ++ (sep ++ p1)).length ≤ 1000) : Fil (p0 ++ (sep ++ p1)) (fun a b => a ++ (sep ++ b)) := by
  obtain ⟨x, y, z, sw, hP⟩ := (vp_iff _).1 h
  have he := hP.eq
  have hx : x = [] := by
    cases x with
    | nil => rfl
    | cons c x =>
      have e : (123 : UInt8) = c := (List.cons.inj he).1
      exact absurd e.symm (hP.x c (by simp)).1
  subst hx
  cases sw with
  | true =>
    exfalso
    have e := (List.cons.inj (List.cons.inj he).2).1
    exact absurd e (by decide)
  | false =>
    simp only [Bool.false_eq_true, if_false, List.nil_append] at he
    have he2 := List.append_cancel_left he
    have hz : z = [] := by
      rcases List.eq_nil_or_concat z with hz | ⟨z', c, hz⟩
      · exact hz
      · exfalso
        have e5 : sep ++ [123, 49] ++ [125] = y ++ (p1 ++ z') ++ [c] := by
          rw [hz] at he2
          rw [show (p1 : List UInt8) = [123, 49] ++ [125] from rfl] at he2
          simpa [p1] using he2
        have hc := (List.append_inj' e5 rfl).2
        have : (125 : UInt8) = c := (List.cons.inj hc).1
        exact absurd this.symm (hP.z c (by rw [hz]; simp)).2
    subst hz
    rw [List.append_nil] at he2
    have hy : sep = y := List.append_cancel_right he2
    subst hy
    have hf : (fl [] sep [] false : FF) = fun a b => a ++ (sep ++ b) := by funext a b; simp [fl]
    rw [← hf]
    have hsl : (p0 ++ (sep ++ p1)).length = sep.length + 6 := by simp only [p0, p1, List.length_append, List.length_cons, List.length_nil]; omega
    refine ⟨fun N a b ha hb => prog_fill hP hs ha hb, fun N a b ha hb hN => ref_fill hP hs ha hb hN, fun a b => ?_, by omega, fun a b => ?_, fun a b => ?_⟩
    · rw [hsl, hf]; simp only [List.length_append]; omega
    · rw [hf]; exact ⟨[], sep ++ b, by simp⟩
    · rw [hf]; exact ⟨a ++ sep, [], by simp⟩
def sj (sep : List UInt8) : List (List UInt8) → List UInt8
  | [] => []
  | x :: xs => x ++ (xs.flatMap fun y => sep ++ y)
theorem sj_cons (sep x y : List UInt8) (xs : List (List UInt8)) : sj sep (x :: y :: xs) = x ++ (sep ++ sj sep (y :: xs)) := by simp [sj]
theorem sj_foldr (sep u v : List UInt8) : ∀ zs : List (List UInt8), zs.foldr (fun a b => a ++ (sep ++ b)) (u ++ (sep ++ v)) = sj sep (zs ++ [u, v])
  | [] => by simp [sj]
  | z :: zs => by
    rw [List.foldr_cons, sj_foldr sep u v zs]
    cases zs with
    | nil => simp [sj]
    | cons y zs =>
      show z ++ (sep ++ sj sep (y :: (zs ++ [u, v]))) = sj sep (z :: y :: (zs ++ [u, v]))
      rw [sj_cons]
theorem tx_sep (sep : List UInt8) (items : List (List UInt8)) : tx (fun a b => a ++ (sep ++ b)) (fun a b => a ++ (sep ++ b)) (fun a b => a ++ (sep ++ b)) (fun a b => a ++ (sep ++ b)) items = sj sep items := by
  by_cases h : 3 ≤ items.length
  · rw [tx_three h, jn_md, sj_foldr, ← last_two (by omega)]
  · match items, h with
    | [], _ => rfl
    | [a], _ => simp [tx, sj]
    | [a, b], _ => simp [tx, sj]
    | a :: b :: c :: l, h => exact absurd (by simp) h
theorem same_loop {N : Nat} {sep : List UInt8} {items : List (List UInt8)} (hs : sep.length ≤ 60) (hn : items.length ≤ 40) (hw : wgt items ≤ 30000) (hN : items.length < N) : iter (fun s => calquelaw16_ListSame_b1 N sep items s.1 s.2) N ([], 0) = some (sj sep items) := by
  have hrun : ∀ (ys : List (List UInt8)) (s : List UInt8) (j : Nat), run (σ := List UInt8 × Nat) (β := List UInt8) (fun s x => .inl (s.1 ++ ((if s.2 = 0 then [] else sep) ++ x), s.2 + 1)) (fun s => s.1) (s, j) ys = s ++ (if j = 0 then sj sep ys else ys.flatMap fun y => sep ++ y) := by
    intro ys
    induction ys with
    | nil => intro s j; simp [run, sj]
    | cons y ys ih =>
      intro s j
      rw [run]
      simp only
      rw [ih, if_neg (show ¬ (j + 1 = 0) by omega)]
      by_cases h : j = 0 <;> simp [h, sj]
  have h := iter_list (body := fun s => calquelaw16_ListSame_b1 N sep items s.1 s.2) (fun (s : List UInt8 × Nat) k => (s.1, k)) items (fun s x => .inl (s.1 ++ ((if s.2 = 0 then [] else sep) ++ x), s.2 + 1)) (fun s => s.1) (fun k s => s.2 = k ∧ s.1.length ≤ wgt (items.take k) + k * 60) (fun s k x hk hI => ?_) (fun s _ => ?_) N ([], 0) hN ⟨rfl, by simp⟩
  · rw [show (([], (0 : Int)) : List UInt8 × Int) = (fun (s : List UInt8 × Nat) (k : Int) => (s.1, k)) ([], 0) (0 : Int) from rfl, h, hrun]
    simp
  · obtain ⟨hk2, hlen⟩ := hI
    subst hk2
    have hlt := getlt hk
    have hx := wgt_mem (List.mem_of_getElem? hk)
    have hwt := wgt_take items s.2 x hk
    have hle := wgt_le items s.2
    constructor
    · show calquelaw16_ListSame_b1 N sep items s.1 s.2 = _
      unfold calquelaw16_ListSame_b1
      simp only [dltx hk, cond_true, idx_some hk, Option.bind_some]
      by_cases h0 : s.2 = 0
      · rw [h0, decide_eq_false (show ¬ ((0 : Nat) : Int) > 0 by omega), cond_false, cat_some (by omega)]
        simp
      · rw [decide_eq_true (show ((s.2 : Nat) : Int) > 0 by omega), cond_true, cat_some (by omega)]
        simp only [Option.bind_some]
        rw [cat_some (by simp only [List.length_append]; omega)]
        simp [h0]
    · rintro s' ⟨⟩
      refine ⟨rfl, ?_⟩
      rw [hwt]
      simp only [List.length_append]
      split <;> (try simp only [List.length_nil]) <;> omega
  · show calquelaw16_ListSame_b1 N sep items s.1 items.length = _
    unfold calquelaw16_ListSame_b1
    simp only [dnlt, cond_false]
theorem listSame_law (sep : List UInt8) (items : List (List UInt8)) (hsp : sep.length ≤ reachBytes) (hi : ∀ y ∈ items, y.length ≤ reachBytes) : ∃ N, calquelaw16_ListSame N sep items = some true := by
  refine ⟨items.length + 60000, ?_⟩
  generalize hNN : items.length + 60000 = N
  have aw := awk (N := N) (by omega)
  have hsp' := hsp
  unfold reachBytes at hsp'
  unfold calquelaw16_ListSame
  have c1 : cat [123, 48, 125] sep = some ([123, 48, 125] ++ sep) := by unfold cat; rw [if_pos (by unfold LIMS; simp only [List.length_cons, List.length_nil]; omega)]
  have c2 : cat ([123, 48, 125] ++ sep) [123, 49, 125] = some (([123, 48, 125] ++ sep) ++ [123, 49, 125]) := by unfold cat; rw [if_pos (by unfold LIMS; simp only [List.length_append, List.length_cons, List.length_nil]; omega)]
  rw [c1]
  simp only [Option.bind_some]
  rw [c2]
  simp only [Option.bind_some]
  rw [aw]
  simp only [Option.bind_some, Bool.not_true, cond_false]
  by_cases h60 : (sep.length : Int) > 60
  · rw [decide_eq_true h60]; rfl
  rw [decide_eq_false h60, cond_false]
  have e0 : ([123, 48, 125] ++ sep) ++ [123, 49, 125] = p0 ++ (sep ++ p1) := by simp [p0, p1]
  rw [e0]
  have hl3 : (p0 ++ (sep ++ p1)).length = sep.length + 6 := by simp only [p0, p1, List.length_append, List.length_cons, List.length_nil]; omega
  obtain ⟨b, hb, hL⟩ := Few_eq (N := N) (p := ListPattern.mk [115] (p0 ++ (sep ++ p1)) (p0 ++ (sep ++ p1)) (p0 ++ (sep ++ p1)) (p0 ++ (sep ++ p1))) (items := items)
    ⟨by simp [reachBytes], by simp only [hl3]; unfold reachBytes; omega, by simp only [hl3]; unfold reachBytes; omega, by simp only [hl3]; unfold reachBytes; omega, by simp only [hl3]; unfold reachBytes; omega, hi⟩ (by omega)
  rw [hb]
  simp only [Option.bind_some]
  cases b with
  | false => rfl
  | true =>
  obtain ⟨L, _, hq⟩ := hL rfl
  simp only [Bool.not_true, cond_false]
  rw [ref_Pattern_eq (by omega) (by omega)]
  simp only [Option.bind_some]
  cases hv : vp (p0 ++ (sep ++ p1)) with
  | false => rfl
  | true =>
  simp only [Bool.not_true, cond_false]
  have hf := sep_fil hv (by omega)
  rw [same_loop (by omega) L.n L.w (by omega)]
  simp only [Option.bind_some, loc_eq]
  have F : Fils (ListPattern.mk [115] (p0 ++ (sep ++ p1)) (p0 ++ (sep ++ p1)) (p0 ++ (sep ++ p1)) (p0 ++ (sep ++ p1))) _ _ _ _ := ⟨hf, hf, hf, hf⟩
  rw [Join_ok (N := N) (by omega) L F (by unfold vps; simp [hv]) (style := [115]) (by simp), tx_sep]
  simp only [Option.bind_some]
  unfold ans
  by_cases hlong : 20000 < (sj sep items).length
  · rw [if_pos hlong, decide_eq_true (show ((sj sep items).length : Int) > 20000 by omega)]; rfl
  · rw [if_neg hlong, decide_eq_false (show ¬ ((sj sep items).length : Int) > 20000 by omega)]
    simp
end Go.Proofs.YtnmiodonophfbaaDoor
