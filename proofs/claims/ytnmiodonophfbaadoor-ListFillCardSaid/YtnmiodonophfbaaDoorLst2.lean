/- Patterns with two places: both Pattern functions are one function; so are both fills at a pattern. -/
import Derived.Test.YtnmiodonophfbaaDoorLst1
namespace Go.Proofs.YtnmiodonophfbaaDoor
open Go.X

/-! ### validate.Pattern -/
theorem containsAny_all (s cs : List UInt8) : decide (Lib.indexAny s cs ≥ 0) = !(s.all fun c => !(cs.contains c)) := by
  induction s with
  | nil => rfl
  | cons b l ih =>
    unfold Lib.indexAny
    rw [List.all_cons]
    cases hc : cs.contains b with
    | true => simp
    | false =>
      simp only [Bool.false_eq_true, if_false, Bool.not_false, Bool.true_and]
      rw [← ih]
      by_cases h1 : Lib.indexAny l cs = -1
      · rw [h1]; rfl
      · have := Lib.indexAny_ge cs l
        rw [if_neg (by rw [beq_iff_eq]; exact h1)]
        rw [decide_eq_true (show Lib.indexAny l cs ≥ 0 by omega), decide_eq_true (show Lib.indexAny l cs + 1 ≥ 0 by omega)]
theorem replace_len {sub : List UInt8} {s : List UInt8} (h : sub ≠ []) (hn : sub ≠ [0]) (h1 : fnd sub s < s.length) : (Lib.replace s sub [0] 1).length ≤ s.length + 1 := by
  rw [replace_one h hn h1]
  simp only [List.length_append, List.length_take, List.length_drop, List.length_cons, List.length_nil]
  omega
theorem prog_b1 {N : Nat} {s p : List UInt8} {k : Int} {d : List UInt8} (hs : s.length ≤ 2000) (hk : k < 2) (hi : strconv_Itoa N k = some d) (hp : [123] ++ d ++ [125] = p) (hd : d.length ≤ 10) (hp2 : 2 ≤ p.length) (hp0 : p ≠ [0]) :
    validate_Pattern_b1 N 2 s k = some (if Lib.count s p = 1 then .inl (Lib.replace s p [0] 1, k + 1) else .inr (.inr false)) := by
  have hne : p ≠ [] := by intro e; rw [e] at hp2; simp at hp2
  unfold validate_Pattern_b1
  rw [decide_eq_true hk, cond_true, hi, Option.bind_some, cat_some (by simp only [List.length_cons, List.length_nil]; omega), Option.bind_some, cat_some (by simp only [List.length_append, List.length_cons, List.length_nil]; omega), Option.bind_some, hp]
  unfold strings_Count
  rw [if_pos ⟨hp2, by omega⟩, Option.bind_some]
  by_cases h1 : Lib.count s p = 1
  · rw [h1, if_pos rfl, show (((1 : Nat) : Int) != 1) = false from rfl, cond_false]
    have hf := ((count_one hne s).1 h1).1
    have hl := replace_len hne hp0 hf
    unfold strings_Replace
    rw [if_pos ⟨by omega, by omega, by simp only [List.length_cons, List.length_nil]; omega, by unfold LIMS; omega⟩]
    rfl
  · rw [if_neg h1, show ((Lib.count s p : Int) != 1) = true from by rw [bne_iff_ne]; omega, cond_true]
theorem validate_eq {N : Nat} {s : List UInt8} (hs : s.length ≤ 1000) (hN : 3 ≤ N) : validate_Pattern N s 2 = some (vp s) := by
  unfold validate_Pattern
  rw [show decide ((2 : Int) < 1) = false from rfl, show decide ((2 : Int) > 9) = false from rfl, cond_false, cond_false]
  obtain ⟨M, rfl⟩ : ∃ M, N = M + 3 := ⟨N - 3, by omega⟩
  have i0 : strconv_Itoa (M + 3) 0 = some [48] := by unfold strconv_Itoa; decide +kernel
  have i1 : strconv_Itoa (M + 3) (0 + 1) = some [49] := by unfold strconv_Itoa; decide +kernel
  have n0 : p0 ≠ [] := by decide
  have n1 : p1 ≠ [] := by decide
  unfold vp
  rw [iter]
  simp only [prog_b1 (N := M + 3) (s := s) (p := p0) (by omega) (by decide) i0 rfl (by decide) (by decide) (by decide)]
  by_cases h0 : Lib.count s p0 = 1
  · have hl0 := replace_len n0 (by decide) ((count_one n0 s).1 h0).1
    rw [if_pos h0, decide_eq_true h0]
    simp only
    rw [iter]
    simp only [prog_b1 (N := M + 3) (s := Lib.replace s p0 [0] 1) (p := p1) (by omega) (by decide) i1 rfl (by decide) (by decide) (by decide)]
    by_cases h1 : Lib.count (Lib.replace s p0 [0] 1) p1 = 1
    · have hl1 := replace_len n1 (by decide) ((count_one n1 _).1 h1).1
      rw [if_pos h1, decide_eq_true h1]
      simp only
      rw [iter]
      have hend : ∀ t, validate_Pattern_b1 (M + 3) 2 t (0 + 1 + 1) = some (.inr (.inl t)) := fun t => rfl
      simp only [hend, Option.bind_some, Sum.elim_inl]
      unfold strings_ContainsAny strings_IndexAny
      rw [if_pos ⟨by decide, by decide, by omega, by decide⟩, Option.bind_some, containsAny_all]
      simp
    · rw [if_neg h1, decide_eq_false h1]
      rfl
  · rw [if_neg h0, decide_eq_false h0]
    rfl

/-! ### the reference's Pattern -/
def arr (a b : Nat) : Arr9_Int := ⟨a, b, 0, 0, 0, 0, 0, 0, 0⟩
theorem ref_end {N : Nat} (a b : Nat) (hN : 3 ≤ N) : ((iter (fun s => calqueref13_Pattern_b2 N 2 (arr a b) s) N 0).bind fun o102 => Sum.elim (fun _o102 => some true) (fun o102 => some o102) o102) = some (a == 1 && b == 1) := by
  obtain ⟨M, rfl⟩ : ∃ M, N = M + 3 := ⟨N - 3, by omega⟩
  have b0 : calqueref13_Pattern_b2 (M + 3) 2 (arr a b) 0 = some (if a = 1 then .inl 1 else .inr (.inr false)) := by
    show (bif ((a : Int) != 1) then some (Sum.inr (Sum.inr false) : Int ⊕ (Unit ⊕ Bool)) else some (Sum.inl (0 + 1))) = _
    by_cases h : a = 1
    · subst h; rfl
    · rw [if_neg h, show ((a : Int) != 1) = true from by rw [bne_iff_ne]; omega]; rfl
  have b1 : calqueref13_Pattern_b2 (M + 3) 2 (arr a b) 1 = some (if b = 1 then .inl 2 else .inr (.inr false)) := by
    show (bif ((b : Int) != 1) then some (Sum.inr (Sum.inr false) : Int ⊕ (Unit ⊕ Bool)) else some (Sum.inl (1 + 1))) = _
    by_cases h : b = 1
    · subst h; rfl
    · rw [if_neg h, show ((b : Int) != 1) = true from by rw [bne_iff_ne]; omega]; rfl
  have b2 : calqueref13_Pattern_b2 (M + 3) 2 (arr a b) 2 = some (.inr (.inl ())) := rfl
  rw [iter]
  simp only [b0]
  by_cases ha : a = 1
  · subst ha
    simp only [if_true]
    rw [iter]
    simp only [b1]
    by_cases hb : b = 1
    · subst hb
      simp only [if_true]
      rw [iter]
      simp only [b2]
      rfl
    · rw [if_neg hb, show (b == 1) = false from by rw [beq_eq_false_iff_ne]; exact hb]
      rfl
  · rw [if_neg ha, show (a == 1) = false from by rw [beq_eq_false_iff_ne]; exact ha]
    rfl
theorem u8_sub (c : UInt8) (h : 48 ≤ c.toNat) : IntKind.wrap .u8 ((c.toNat : Int) - 48) = (c.toNat : Int) - 48 := wrap_of (inR_u8.2 (by have := c.toNat_lt; omega))
theorem u8_ne {c d : UInt8} (h : c ≠ d) : ((c.toNat : Int) == (d.toNat : Int)) = false := by
  rw [beq_eq_false_iff_ne]; intro e; exact h (UInt8.toNat_inj.1 (by omega))
theorem u8_eqn (c : UInt8) (n : Nat) (hn : n < 256) : ((c.toNat : Int) == (n : Int)) = decide (c = UInt8.ofNat n) := by
  by_cases h : c = UInt8.ofNat n
  · subst h
    rw [decide_eq_true rfl, beq_iff_eq, UInt8.toNat_ofNat', Nat.mod_eq_of_lt hn]
  · rw [decide_eq_false h, beq_eq_false_iff_ne]
    intro e
    apply h
    apply UInt8.toNat_inj.1
    rw [UInt8.toNat_ofNat', Nat.mod_eq_of_lt hn]
    omega
theorem ref_loop {N0 : Nat} {s : List UInt8} (hs : s.length ≤ 1000) (hN0 : 3 ≤ N0) : ∀ (n : Nat) (i a b : Nat) (N : Nat), i + n = s.length + 3 → n < N → i ≤ s.length → a ≤ i → b ≤ i →
    (iter (fun t => calqueref13_Pattern_b1 N0 s 2 t.1 t.2) N ((i : Int), arr a b)).bind (fun o15 => Sum.elim (fun o15 => (iter (fun t => calqueref13_Pattern_b2 N0 2 o15 t) N0 0).bind fun o102 => Sum.elim (fun _o102 => some true) (fun o102 => some o102) o102) (fun o15 => some o15) o15) = some (rp (s.drop i) a b) := by
  intro n
  induction n using Nat.strongRecOn with
  | _ n ih =>
  intro i a b N hin hN hi ha hb
  obtain ⟨N, rfl⟩ : ∃ M, N = M + 1 := ⟨N - 1, by omega⟩
  have st1 : ∀ {b' : Arr9_Int ⊕ Bool}, calqueref13_Pattern_b1 N0 s 2 (i : Int) (arr a b) = some (.inr b') → iter (fun t : Int × Arr9_Int => calqueref13_Pattern_b1 N0 s 2 t.1 t.2) (N + 1) ((i : Int), arr a b) = some b' := fun {b'} h => iter_inr (body := fun t : Int × Arr9_Int => calqueref13_Pattern_b1 N0 s 2 t.1 t.2) (s := ((i : Int), arr a b)) h N
  have st2 : ∀ {s' : Int × Arr9_Int}, calqueref13_Pattern_b1 N0 s 2 (i : Int) (arr a b) = some (.inl s') → iter (fun t : Int × Arr9_Int => calqueref13_Pattern_b1 N0 s 2 t.1 t.2) (N + 1) ((i : Int), arr a b) = iter (fun t : Int × Arr9_Int => calqueref13_Pattern_b1 N0 s 2 t.1 t.2) N s' := fun {s'} h => iter_inl (body := fun t : Int × Arr9_Int => calqueref13_Pattern_b1 N0 s 2 t.1 t.2) (s := ((i : Int), arr a b)) h N
  by_cases hlt : i < s.length
  case neg =>
    have e : s.drop i = [] := List.drop_eq_nil_of_le (by omega)
    have hb0 : calqueref13_Pattern_b1 N0 s 2 (i : Int) (arr a b) = some (.inr (.inl (arr a b))) := by
      unfold calqueref13_Pattern_b1
      rw [decide_eq_false (show ¬ (i : Int) < (s.length : Int) by omega), cond_false]
    rw [st1 hb0, Option.bind_some, Sum.elim_inl, ref_end a b hN0, e, rp]
  case pos =>
  have ed : s.drop i = s[i] :: s.drop (i + 1) := List.drop_eq_getElem_cons hlt
  have hidx : idx s (i : Int) = some s[i] := idx_some (List.getElem?_eq_getElem hlt)
  have h123 : ((s[i].toNat : Int) == 123) = decide (s[i] = 123) := u8_eqn s[i] 123 (by decide)
  have h125 : ((s[i].toNat : Int) == 125) = decide (s[i] = 125) := u8_eqn s[i] 125 (by decide)
  have hw2 : IntKind.wrap .i64 ((i : Int) + 2) = ((i + 2 : Nat) : Int) := by rw [wrap_id (by omega) (by omega)]; rfl
  by_cases hc : s[i] = 123
  case neg =>
    have hb0 : calqueref13_Pattern_b1 N0 s 2 (i : Int) (arr a b) = if s[i] = 125 then some (.inr (.inr false)) else some (.inl ((i : Int) + 1, arr a b)) := by
      unfold calqueref13_Pattern_b1
      rw [decide_eq_true (show (i : Int) < (s.length : Int) by omega), cond_true, hidx, Option.bind_some, h123, decide_eq_false hc, cond_false, Option.bind_some, h123, decide_eq_false hc, cond_false, Option.bind_some, h125]
      by_cases h : s[i] = 125
      · rw [decide_eq_true h, if_pos h]; rfl
      · rw [decide_eq_false h, if_neg h]; rfl
    rw [ed, rp_cons _ _ _ _ hc]
    by_cases h : s[i] = 125
    · rw [if_pos h] at hb0
      rw [st1 hb0, if_pos h]
      rfl
    · rw [if_neg h] at hb0
      rw [st2 hb0, if_neg h]
      exact ih (n - 1) (by omega) (i + 1) a b N (by omega) (by omega) hlt (by omega) (by omega)
  case pos =>
  have hbad : ∀ (X : Option ((Int × Arr9_Int) ⊕ ((Arr9_Int ⊕ Bool)))), ((idx s (i : Int)).bind fun c62 => bif ((c62.toNat : Int) == 123) then some (.inr (.inr false)) else X) = some (.inr (.inr false)) := by
    intro X
    rw [hidx, Option.bind_some, h123, decide_eq_true hc, cond_true]
  have bad : calqueref13_Pattern_b1 N0 s 2 (i : Int) (arr a b) = some (.inr (.inr false)) → rp (s.drop i) a b = false →
      (iter (fun t => calqueref13_Pattern_b1 N0 s 2 t.1 t.2) (N + 1) ((i : Int), arr a b)).bind (fun o15 => Sum.elim (fun o15 => (iter (fun t => calqueref13_Pattern_b2 N0 2 o15 t) N0 0).bind fun o102 => Sum.elim (fun _o102 => some true) (fun o102 => some o102) o102) (fun o15 => some o15) o15) = some (rp (s.drop i) a b) := by
    intro h1 h2
    rw [st1 h1, h2]
    rfl
  rw [hc] at ed
  by_cases hl2 : i + 2 < s.length
  case neg =>
    refine bad ?_ ?_
    · unfold calqueref13_Pattern_b1
      rw [decide_eq_true (show (i : Int) < (s.length : Int) by omega), cond_true]
      conv => lhs; rw [hidx]
      rw [Option.bind_some, h123, decide_eq_true hc, cond_true, hw2, decide_eq_false (show ¬ ((i + 2 : Nat) : Int) < (s.length : Int) by omega), cond_false]
      rw [Option.bind_some, h123, decide_eq_true hc, cond_true]
    · rw [ed, rp_open]
      · intro r e
        have := congrArg List.length e
        simp only [List.length_drop, List.length_cons] at this
        omega
      · intro r e
        have := congrArg List.length e
        simp only [List.length_drop, List.length_cons] at this
        omega
  case pos =>
  have e1 : s.drop (i + 1) = s[i + 1] :: s[i + 2] :: s.drop (i + 3) := by rw [List.drop_eq_getElem_cons (show i + 1 < s.length by omega), List.drop_eq_getElem_cons hl2]
  have hidx1 : idx s ((i : Int) + 1) = some s[i + 1] := idx_some (k := i + 1) (List.getElem?_eq_getElem (show i + 1 < s.length by omega))
  have hidx2 : idx s ((i + 2 : Nat) : Int) = some s[i + 2] := idx_some (List.getElem?_eq_getElem hl2)
  have h2125 : ((s[i + 2].toNat : Int) == 125) = decide (s[i + 2] = 125) := u8_eqn s[i + 2] 125 (by decide)
  have hset0 : ∀ z : Int, Arr9_Int.set (arr a b) 0 z = some ⟨z, b, 0, 0, 0, 0, 0, 0, 0⟩ := fun z => rfl
  have hset1 : ∀ z : Int, Arr9_Int.set (arr a b) 1 z = some ⟨a, z, 0, 0, 0, 0, 0, 0, 0⟩ := fun z => rfl
  have hw3 : IntKind.wrap .i64 ((i : Int) + 2) + 1 = ((i + 3 : Nat) : Int) := by rw [hw2]; omega
  have hnext : ∀ (a' b' : Nat), a' ≤ i + 3 → b' ≤ i + 3 → calqueref13_Pattern_b1 N0 s 2 (i : Int) (arr a b) = some (.inl (((i + 3 : Nat) : Int), arr a' b')) → rp (s.drop i) a b = rp (s.drop (i + 3)) a' b' →
      (iter (fun t => calqueref13_Pattern_b1 N0 s 2 t.1 t.2) (N + 1) ((i : Int), arr a b)).bind (fun o15 => Sum.elim (fun o15 => (iter (fun t => calqueref13_Pattern_b2 N0 2 o15 t) N0 0).bind fun o102 => Sum.elim (fun _o102 => some true) (fun o102 => some o102) o102) (fun o15 => some o15) o15) = some (rp (s.drop i) a b) := by
    intro a' b' h1 h2 h3 h4
    rw [st2 h3, h4]
    exact ih (n - 3) (by omega) (i + 3) a' b' N (by omega) (by omega) (by omega) h1 h2
  by_cases h5 : s[i + 2] = 125
  case neg =>
    refine bad ?_ ?_
    · unfold calqueref13_Pattern_b1
      rw [decide_eq_true (show (i : Int) < (s.length : Int) by omega), cond_true]
      conv => lhs; rw [hidx]
      rw [Option.bind_some, h123, decide_eq_true hc, cond_true, hw2, decide_eq_true (show ((i + 2 : Nat) : Int) < (s.length : Int) by omega), cond_true, hidx2, Option.bind_some, h2125, decide_eq_false h5, cond_false]
      rw [Option.bind_some, h123, decide_eq_true hc, cond_true]
    · rw [ed, e1, rp_open]
      · intro r e; simp only [List.cons.injEq] at e; exact h5 e.2.1
      · intro r e; simp only [List.cons.injEq] at e; exact h5 e.2.1
  case pos =>
  rw [h5] at e1
  have hhead : calqueref13_Pattern_b1 N0 s 2 (i : Int) (arr a b) = if s[i + 1] = 48 then some (.inl (((i + 3 : Nat) : Int), arr (a + 1) b)) else if s[i + 1] = 49 then some (.inl (((i + 3 : Nat) : Int), arr a (b + 1))) else some (.inr (.inr false)) := by
    unfold calqueref13_Pattern_b1
    rw [decide_eq_true (show (i : Int) < (s.length : Int) by omega), cond_true]
    conv => lhs; rw [hidx]
    rw [Option.bind_some, h123, decide_eq_true hc, cond_true, hw3, hw2, decide_eq_true (show ((i + 2 : Nat) : Int) < (s.length : Int) by omega), cond_true, hidx2, Option.bind_some, h2125, decide_eq_true h5, cond_true]
    rw [hidx1]
    simp only [Option.bind_some, h123, decide_eq_true hc, cond_true]
    by_cases h48 : 48 ≤ s[i + 1].toNat
    · rw [decide_eq_true (show (s[i + 1].toNat : Int) ≥ 48 by omega), cond_true, u8_sub _ h48]
      by_cases hlt2 : s[i + 1].toNat < 50
      · rw [decide_eq_true (show (s[i + 1].toNat : Int) - 48 < 2 by omega), cond_true]
        by_cases hq : s[i + 1] = 48
        · have e48 : (s[i + 1].toNat : Int) - 48 = 0 := by rw [hq]; rfl
          rw [if_pos hq, e48]
          simp only [show Arr9_Int.get (arr a b) 0 = some (a : Int) from rfl, Option.bind_some, hset0]
          rw [wrap_id (by omega) (by omega)]
          rfl
        · have hq1 : s[i + 1] = 49 := by
            apply UInt8.toNat_inj.1
            have : s[i + 1].toNat ≠ 48 := fun e => hq (UInt8.toNat_inj.1 e)
            show _ = 49
            omega
          have e49 : (s[i + 1].toNat : Int) - 48 = 1 := by rw [hq1]; rfl
          rw [if_neg hq, if_pos hq1, e49]
          simp only [show Arr9_Int.get (arr a b) 1 = some (b : Int) from rfl, Option.bind_some, hset1]
          rw [wrap_id (by omega) (by omega)]
          rfl
      · rw [decide_eq_false (show ¬ (s[i + 1].toNat : Int) - 48 < 2 by omega), cond_false, if_neg (fun e => hlt2 (by rw [e]; decide)), if_neg (fun e => hlt2 (by rw [e]; decide))]
    · rw [decide_eq_false (show ¬ (s[i + 1].toNat : Int) ≥ 48 by omega), cond_false, if_neg (fun e => h48 (by rw [e]; decide)), if_neg (fun e => h48 (by rw [e]; decide))]
  by_cases hq : s[i + 1] = 48
  · refine hnext (a + 1) b (by omega) (by omega) (by rw [hhead, if_pos hq]) ?_
    rw [ed, e1, hq]
    exact rp_p0 _ _ _
  by_cases hq1 : s[i + 1] = 49
  · refine hnext a (b + 1) (by omega) (by omega) (by rw [hhead, if_neg hq, if_pos hq1]) ?_
    rw [ed, e1, hq1]
    exact rp_p1 _ _ _
  · refine bad (by rw [hhead, if_neg hq, if_neg hq1]) ?_
    rw [ed, e1, rp_open]
    · intro r e; simp only [List.cons.injEq] at e; exact hq e.1
    · intro r e; simp only [List.cons.injEq] at e; exact hq1 e.1
theorem ref_Pattern_eq {N : Nat} {s : List UInt8} (hs : s.length ≤ 1000) (hN : 3000 ≤ N) : calqueref13_Pattern N s 2 = some (vp s) := by
  unfold calqueref13_Pattern
  rw [show decide ((2 : Int) < 1) = false from rfl, show decide ((2 : Int) > 9) = false from rfl, cond_false, cond_false, vp_rp]
  exact ref_loop hs (by omega) (s.length + 3) 0 0 0 N (by omega) (by omega) (by omega) (by omega) (by omega)
end Go.Proofs.YtnmiodonophfbaaDoor
