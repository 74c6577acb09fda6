/- Numbers: Group: the program's and the reference's are one function. -/
import Derived.Test.YthecjdgffboedaaDoorNum1
import Derived.KernelRfl
namespace Go.Proofs.YthecjdgffboedaaDoor
open Go.X

/-- Groups of sz digits, from the right. -/
def gt (sz : Nat) (sep : List UInt8) : Nat → List UInt8 → List UInt8 → List UInt8
  | 0, r, out => r ++ out
  | f + 1, r, out => if r.length ≤ sz then r ++ out else gt sz sep f (r.take (r.length - sz)) (sep ++ r.drop (r.length - sz) ++ out)
theorem gt_len {sz : Nat} {sep : List UInt8} (h1 : 1 ≤ sz) (h2 : sep.length ≤ 20) : ∀ f r out, (gt sz sep f r out).length ≤ 21 * r.length + out.length
  | 0, r, out => by unfold gt; rw [List.length_append]; omega
  | f + 1, r, out => by
    unfold gt
    split
    · rw [List.length_append]; omega
    · have := gt_len h1 h2 f (r.take (r.length - sz)) (sep ++ r.drop (r.length - sz) ++ out)
      simp only [List.length_append, List.length_take, List.length_drop] at this
      omega
theorem gt_end {sz : Nat} {sep : List UInt8} : ∀ f r out, ∃ p, gt sz sep f r out = p ++ out
  | 0, r, out => ⟨r, rfl⟩
  | f + 1, r, out => by
    unfold gt
    split
    · exact ⟨r, rfl⟩
    · obtain ⟨p, hp⟩ := gt_end (sz := sz) (sep := sep) f (r.take (r.length - sz)) (sep ++ r.drop (r.length - sz) ++ out)
      exact ⟨p ++ (sep ++ r.drop (r.length - sz)), by rw [hp]; simp only [List.append_assoc]⟩
theorem gt_filter {sz : Nat} {p : UInt8 → Bool} {sep : List UInt8} (hs : sep.filter p = []) : ∀ f r out, (gt sz sep f r out).filter p = r.filter p ++ out.filter p
  | 0, r, out => by unfold gt; rw [List.filter_append]
  | f + 1, r, out => by
    unfold gt
    split
    · rw [List.filter_append]
    · rw [gt_filter hs f, List.filter_append, List.filter_append, hs, List.nil_append, ← List.append_assoc, ← List.filter_append, List.take_append_drop]

def gsz (x : Symbols) : Int := if x.Secondary < 1 then x.Primary else x.Secondary
def grp (x : Symbols) (d : List UInt8) : List UInt8 :=
  if x.Primary < 1 ∨ (d.length : Int) ≤ x.Primary then d
  else gt (gsz x).toNat x.Group d.length (d.take (d.length - x.Primary.toNat)) (x.Group ++ d.drop (d.length - x.Primary.toNat))
theorem grp_len {x : Symbols} {d : List UInt8} (h : x.Group.length ≤ 20) (hx : 1 ≤ x.Primary → 1 ≤ gsz x) : (grp x d).length ≤ 22 * d.length + 20 := by
  unfold grp
  split
  · omega
  · rename_i h0
    have h1 := hx (by omega)
    have := gt_len (sz := (gsz x).toNat) (by omega) h d.length (d.take (d.length - x.Primary.toNat)) (x.Group ++ d.drop (d.length - x.Primary.toNat))
    simp only [List.length_append, List.length_take, List.length_drop] at this
    omega
theorem gsz_pos {x : Symbols} (h : 1 ≤ x.Primary) : 1 ≤ gsz x := by unfold gsz; split <;> omega

theorem join_cons2 (x : List UInt8) {ys : List (List UInt8)} (h : ys ≠ []) (sep : List UInt8) : Lib.join (x :: ys) sep = x ++ (sep ++ Lib.join ys sep) := by
  cases ys with
  | nil => exact absurd rfl h
  | cons y r => rw [Lib.join_cons, Lib.join_cons]; simp [Lib.joinTail]

theorem prog_loop {N0 : Nat} {sep : List UInt8} {sz : Int} (h1 : 1 ≤ sz) (h2 : sz ≤ 9223372036854775807) : ∀ f N (groups : List (List UInt8)) (rest : List UInt8), rest.length ≤ f → f < N → groups ≠ [] → rest ≠ [] → groups.length + f ≤ 10000 →
    ∃ gs, iter (fun s => number_Group_b1 N0 sz s.1 s.2) N (groups, rest) = some gs ∧ gs.length ≤ 10000 ∧ Lib.join gs.reverse sep = gt sz.toNat sep f rest (sep ++ Lib.join groups.reverse sep)
  | 0, N, groups, rest, hf, _, _, hr, _ => absurd (List.eq_nil_of_length_eq_zero (Nat.le_zero.1 hf)) hr
  | f + 1, N, groups, rest, hf, hN, hg, hr, hb => by
    obtain ⟨N, rfl⟩ : ∃ M, N = M + 1 := ⟨N - 1, by omega⟩
    have hrl : 1 ≤ rest.length := by cases rest with | nil => exact absurd rfl hr | cons a t => simp
    have hcond : (rest != []) = true := by cases rest with | nil => exact absurd rfl hr | cons a t => rfl
    have hstep : ∀ c : Nat, max 0 (IntKind.wrap .i64 ((rest.length : Int) - sz)) = (c : Int) → c ≤ rest.length → number_Group_b1 N0 sz groups rest = some (.inl (groups ++ [rest.drop c], rest.take c)) := by
      intro c hc hcl
      unfold number_Group_b1
      simp only [hcond, cond_true, hc]
      rw [slc_drop hcl, slc_take hcl]
      have happ : app groups [rest.drop c] = some (groups ++ [rest.drop c]) := by
        unfold app; rw [if_pos (by unfold LIM; simp only [List.length_cons, List.length_nil]; omega)]
      simp only [Option.bind_some, happ]
    have hw : IntKind.wrap .i64 ((rest.length : Int) - sz) = (rest.length : Int) - sz := wrap_of (inR_i64.2 ⟨by omega, by omega⟩)
    by_cases hle : rest.length ≤ sz.toNat
    · have hs := hstep 0 (by rw [hw]; omega) (Nat.zero_le _)
      rw [List.drop_zero, List.take_zero] at hs
      obtain ⟨M, rfl⟩ : ∃ M, N = M + 1 := ⟨N - 1, by omega⟩
      refine ⟨groups ++ [rest], ?_, by simp only [List.length_append, List.length_cons, List.length_nil]; omega, ?_⟩
      · rw [iter]
        simp only [hs]
        rfl
      · rw [List.reverse_append]
        show Lib.join (rest :: groups.reverse) sep = _
        rw [join_cons2 _ (by simpa using hg), gt, if_pos hle]
    · have hc : max 0 (IntKind.wrap .i64 ((rest.length : Int) - sz)) = ((rest.length - sz.toNat : Nat) : Int) := by rw [hw]; omega
      have hs := hstep _ hc (by omega)
      obtain ⟨gs, e1, e2, e3⟩ := prog_loop (N0 := N0) (sep := sep) h1 h2 f N (groups ++ [rest.drop (rest.length - sz.toNat)]) (rest.take (rest.length - sz.toNat)) (by rw [List.length_take]; omega) (by omega) (by simp) (fun e => by
        have := congrArg List.length e
        rw [List.length_take] at this
        simp only [List.length_nil] at this
        omega) (by simp only [List.length_append, List.length_cons, List.length_nil]; omega)
      refine ⟨gs, ?_, e2, ?_⟩
      · rw [iter]
        simp only [hs]
        exact e1
      · rw [e3, gt, if_neg hle, List.reverse_append]
        show gt _ _ _ _ (sep ++ Lib.join (rest.drop (rest.length - sz.toNat) :: groups.reverse) sep) = _
        rw [join_cons2 _ (by simpa using hg), List.append_assoc]

theorem ref_loop {N0 : Nat} {x : Symbols} {d : List UInt8} {sz : Int} (h1 : 1 ≤ sz) (hg : x.Group.length ≤ 20) (hd : d.length ≤ 1000) : ∀ f N (k : Nat) (out : List UInt8), k ≤ f → f < N → k ≤ d.length → out.length + 21 * k ≤ 21 * d.length + 42 →
    (iter (fun s => calqueref15_Group_b1 N0 x d sz s.1 s.2) N ((k : Int), out)).bind (fun o => (slc d 0 o.1).bind fun s => (cat s o.2).bind fun r => some r) = some (gt sz.toNat x.Group f (d.take k) out) := by
  have fin : ∀ (k : Nat) (out : List UInt8), k ≤ d.length → out.length + 21 * k ≤ 21 * d.length + 42 → ((slc d 0 (k : Int)).bind fun s => (cat s out).bind fun r => some r) = some (d.take k ++ out) := by
    intro k out hk hb
    rw [slc_take hk, Option.bind_some, cat_some (by rw [List.length_take]; omega)]
    rfl
  intro f
  induction f with
  | zero =>
    intro N k out hkf hN hk hb
    obtain ⟨N, rfl⟩ : ∃ M, N = M + 1 := ⟨N - 1, by omega⟩
    obtain rfl : k = 0 := by omega
    rw [iter]
    unfold calqueref15_Group_b1
    simp only [show decide (((0 : Nat) : Int) > sz) = false from decide_eq_false (by omega), cond_false, Option.bind_some]
    exact fin 0 out hk hb
  | succ f ih =>
    intro N k out hkf hN hk hb
    obtain ⟨N, rfl⟩ : ∃ M, N = M + 1 := ⟨N - 1, by omega⟩
    rw [iter]
    by_cases hgt : (k : Int) > sz
    · have hw : IntKind.wrap .i64 ((k : Int) - sz) = ((k - sz.toNat : Nat) : Int) := by rw [wrap_id (by omega) (by omega)]; omega
      have hb1 : calqueref15_Group_b1 N0 x d sz k out = some (.inl (((k - sz.toNat : Nat) : Int), x.Group ++ (d.take k).drop (k - sz.toNat) ++ out)) := by
        unfold calqueref15_Group_b1
        simp only [decide_eq_true hgt, cond_true, hw]
        rw [slc_some (by omega) hk]
        have e : (d.drop (k - sz.toNat)).take (k - (k - sz.toNat)) = (d.take k).drop (k - sz.toNat) := by rw [List.drop_take]
        rw [e, Option.bind_some, cat_some (by simp only [List.length_drop, List.length_take]; omega), Option.bind_some, cat_some (by simp only [List.length_append, List.length_drop, List.length_take]; omega)]
        rfl
      simp only [hb1]
      rw [ih N (k - sz.toNat) _ (by omega) (by omega) (by omega) (by simp only [List.length_append, List.length_drop, List.length_take]; omega)]
      have hlen : (d.take k).length = k := by rw [List.length_take]; omega
      rw [gt, hlen, if_neg (by omega), List.take_take, Nat.min_eq_left (by omega)]
    · have hb1 : calqueref15_Group_b1 N0 x d sz k out = some (.inr ((k : Int), out)) := by
        unfold calqueref15_Group_b1
        simp only [decide_eq_false hgt, cond_false]
      simp only [hb1, Option.bind_some]
      have hlen : (d.take k).length = k := by rw [List.length_take]; omega
      rw [gt, hlen, if_pos (by omega)]
      exact fin k out hk hb

/-- The integers of symbols are Go's. -/
def SymOk (x : Symbols) : Prop := InR .i64 x.Primary ∧ InR .i64 x.Secondary
theorem gsz_le {x : Symbols} (h : SymOk x) : gsz x ≤ 9223372036854775807 := by
  obtain ⟨h1, h2⟩ := h
  rw [inR_i64] at h1 h2
  unfold gsz; split <;> omega

theorem prog_Group_eq {N : Nat} {x : Symbols} {d : List UInt8} (hx : SymOk x) (hg : x.Group.length ≤ 20) (hd : d.length ≤ 1000) (hN : 3000 ≤ N) : number_Group N x d = some (grp x d) := by
  unfold number_Group grp
  by_cases h1 : x.Primary < 1
  · simp only [decide_eq_true h1, cond_true]
    rw [if_pos (.inl h1)]
  · simp only [decide_eq_false h1, cond_false]
    by_cases h2 : (d.length : Int) ≤ x.Primary
    · simp only [decide_eq_true h2, cond_true]
      rw [if_pos (.inr h2)]
    · simp only [decide_eq_false h2, cond_false]
      rw [if_neg (by omega)]
      have hs : (bif decide (x.Secondary < 1) then some x.Primary else some x.Secondary) = some (gsz x) := by
        unfold gsz
        by_cases h3 : x.Secondary < 1
        · rw [decide_eq_true h3, if_pos h3]; rfl
        · rw [decide_eq_false h3, if_neg h3]; rfl
      rw [hs]
      have hw : IntKind.wrap .i64 ((d.length : Int) - x.Primary) = ((d.length - x.Primary.toNat : Nat) : Int) := by rw [wrap_id (by omega) (by omega)]; omega
      rw [Option.bind_some, hw, slc_drop (by omega), Option.bind_some, slc_take (by omega), Option.bind_some]
      have hp := gsz_pos (x := x) (by omega)
      have hq := gsz_le hx
      obtain ⟨gs, e1, e2, e3⟩ := prog_loop (N0 := N) (sep := x.Group) hp hq d.length N [d.drop (d.length - x.Primary.toNat)] (d.take (d.length - x.Primary.toNat)) (by rw [List.length_take]; omega) (by omega) (by simp) (fun e => by
        have := congrArg List.length e
        rw [List.length_take] at this
        simp only [List.length_nil] at this
        omega) (by simp only [List.length_cons, List.length_nil]; omega)
      rw [e1, Option.bind_some]
      rw [show ([d.drop (d.length - x.Primary.toNat)] : List (List UInt8)).reverse = [d.drop (d.length - x.Primary.toNat)] from rfl, Lib.join_one] at e3
      have hl := gt_len (sz := (gsz x).toNat) (sep := x.Group) (by omega) hg d.length (d.take (d.length - x.Primary.toNat)) (x.Group ++ d.drop (d.length - x.Primary.toNat))
      rw [← e3] at hl ⊢
      simp only [List.length_append, List.length_take, List.length_drop] at hl
      unfold strings_Join
      rw [if_pos ⟨by rw [List.length_reverse]; omega, by omega⟩]
      rfl

theorem ref_Group_eq {N : Nat} {x : Symbols} {d : List UInt8} (hg : x.Group.length ≤ 20) (hd : d.length ≤ 1000) (hN : 3000 ≤ N) : calqueref15_Group N x d = some (grp x d) := by
  unfold calqueref15_Group grp
  by_cases h1 : x.Primary < 1
  · simp only [decide_eq_true h1, cond_true]
    rw [if_pos (.inl h1)]
  · simp only [decide_eq_false h1, cond_false]
    by_cases h2 : (d.length : Int) ≤ x.Primary
    · simp only [decide_eq_true h2, cond_true]
      rw [if_pos (.inr h2)]
    · simp only [decide_eq_false h2, cond_false]
      rw [if_neg (by omega)]
      have hs : (bif decide (x.Secondary < 1) then some x.Primary else some x.Secondary) = some (gsz x) := by
        unfold gsz
        by_cases h3 : x.Secondary < 1
        · rw [decide_eq_true h3, if_pos h3]; rfl
        · rw [decide_eq_false h3, if_neg h3]; rfl
      rw [hs]
      have hw : IntKind.wrap .i64 ((d.length : Int) - x.Primary) = ((d.length - x.Primary.toNat : Nat) : Int) := by rw [wrap_id (by omega) (by omega)]; omega
      rw [Option.bind_some, hw, slc_drop (by omega), Option.bind_some, cat_some (by rw [List.length_drop]; omega), Option.bind_some]
      exact ref_loop (N0 := N) (gsz_pos (by omega)) hg hd d.length N _ _ (by omega) (by omega) (by omega) (by simp only [List.length_append, List.length_drop]; omega)

/-! ### the law on groups -/
theorem awake_eq (n : Nat) : calquelaw15_awake (n + 3000) = some true := by kernel_rfl

def gstep (s : List UInt8 × Int × Int) (c : UInt8) : List UInt8 × Int × Int := if c = 0 then (s.1, 0, s.2.2 + 1) else (s.1 ++ [c], s.2.1 + 1, s.2.2)
theorem gb2 {N0 : Nat} {s : List UInt8} (hs : s.length ≤ 100000) : ∀ j k N (st : List UInt8 × Int × Int), k + j = s.length → j < N → st.1.length ≤ k → 0 ≤ st.2.1 → st.2.1 ≤ k → 0 ≤ st.2.2 → st.2.2 ≤ k →
    iter (fun t => calquelaw15_NumberGroup_b2 N0 s t.1 t.2.1 t.2.2.1 t.2.2.2) N (st.1, st.2.1, st.2.2, (k : Int)) = some ((s.drop k).foldl gstep st) := by
  intro j
  induction j with
  | zero =>
    intro k N st hk hN _ _ _ _ _
    obtain ⟨N, rfl⟩ : ∃ M, N = M + 1 := ⟨N - 1, by omega⟩
    rw [iter]
    unfold calquelaw15_NumberGroup_b2
    simp only [show decide ((k : Int) < (s.length : Int)) = false from decide_eq_false (by omega), cond_false]
    rw [List.drop_eq_nil_of_le (by omega)]
    rfl
  | succ j ih =>
    intro k N st hk hN a1 a2 a3 a4 a5
    obtain ⟨N, rfl⟩ : ∃ M, N = M + 1 := ⟨N - 1, by omega⟩
    have hlt : k < s.length := by omega
    have e : s.drop k = s[k] :: s.drop (k + 1) := List.drop_eq_getElem_cons hlt
    have hb : calquelaw15_NumberGroup_b2 N0 s st.1 st.2.1 st.2.2 (k : Int) = some (.inl ((gstep st s[k]).1, (gstep st s[k]).2.1, (gstep st s[k]).2.2, (k : Int) + 1)) := by
      unfold calquelaw15_NumberGroup_b2
      simp only [show decide ((k : Int) < (s.length : Int)) = true from decide_eq_true (by omega), cond_true, idx_some (List.getElem?_eq_getElem hlt), Option.bind_some]
      unfold gstep
      by_cases h0 : s[k] = 0
      · rw [if_pos h0, h0]
        simp only [show (((0 : UInt8).toNat : Int) == 0) = true from rfl, cond_true]
        rw [wrap_id (by omega) (by omega)]
      · have : ((s[k].toNat : Int) == 0) = false := by
          rw [beq_eq_false_iff_ne]; intro e
          exact h0 (UInt8.toNat_inj.1 (by show s[k].toNat = 0; omega))
        rw [if_neg h0, this]
        simp only [cond_false]
        have e1 : slc s (k : Int) ((k : Int) + 1) = some [s[k]] := by
          have := slc_some (xs := s) (a := k) (b := k + 1) (by omega) (by omega)
          rw [show (((k + 1 : Nat)) : Int) = (k : Int) + 1 from rfl] at this
          rw [this, List.drop_eq_getElem_cons hlt, show k + 1 - k = 1 from by omega]
          rfl
        rw [e1, Option.bind_some, cat_some (by simp only [List.length_cons, List.length_nil]; omega), Option.bind_some, wrap_id (by omega) (by omega)]
    rw [iter]
    simp only [hb]
    rw [show ((k : Int) + 1) = ((k + 1 : Nat) : Int) from rfl, e, List.foldl_cons]
    refine ih (k + 1) N (gstep st s[k]) (by omega) (by omega) ?_ ?_ ?_ ?_ ?_ <;> unfold gstep <;> split <;> simp only [List.length_append, List.length_cons, List.length_nil] <;> omega
theorem gfold_clean : ∀ (t : List UInt8) (st : List UInt8 × Int × Int), t.all (· != 0) = true → t.foldl gstep st = (st.1 ++ t, st.2.1 + t.length, st.2.2)
  | [], st, _ => by simp
  | c :: t, st, h => by
    rw [List.all_cons, Bool.and_eq_true] at h
    have hc : c ≠ 0 := by simpa using h.1
    rw [List.foldl_cons, gfold_clean t _ h.2]
    unfold gstep
    rw [if_neg hc]
    simp only [List.length_cons, List.append_assoc, List.singleton_append]
    congr 2
    omega
theorem gfold_rest : ∀ (t : List UInt8) (st : List UInt8 × Int × Int), (t.foldl gstep st).1 = st.1 ++ t.filter (· != 0)
  | [], st => by simp
  | c :: t, st => by
    rw [List.foldl_cons, gfold_rest t]
    unfold gstep
    by_cases hc : c = 0
    · rw [if_pos hc]; simp [hc]
    · rw [if_neg hc]; simp [hc]

theorem numberGroup_pure (x : Symbols) (d : List UInt8) (hx : SymOk x) (_ : d.length ≤ LIMS) : ∃ N, calquelaw15_NumberGroup N x d = some true := by
  refine ⟨d.length + 3000 + 100000, ?_⟩
  have ha : calquelaw15_awake (d.length + 3000 + 100000) = some true := by rw [show d.length + 3000 + 100000 = (d.length + 100000) + 3000 by omega]; exact awake_eq _
  generalize hNd : d.length + 3000 + 100000 = N at *
  unfold calquelaw15_NumberGroup
  rw [ha]
  simp only [Option.bind_some, Bool.not_true, cond_false]
  unfold calqueref15_Few
  by_cases hf1 : (x.Decimal.length : Int) ≤ 20
  case neg => simp only [decide_eq_false hf1, cond_false, Option.bind_some, Bool.not_false, cond_true]
  by_cases hf2 : (x.Group.length : Int) ≤ 20
  case neg => simp only [decide_eq_true hf1, decide_eq_false hf2, cond_false, Option.bind_some, Bool.not_false, cond_true]
  by_cases hf3 : (x.Minus.length : Int) ≤ 20
  case neg => simp only [decide_eq_true hf1, decide_eq_true hf2, decide_eq_false hf3, cond_false, Option.bind_some, Bool.not_false, cond_true]
  by_cases hf4 : (x.Percent.length : Int) ≤ 20
  case neg => simp only [decide_eq_true hf1, decide_eq_true hf2, decide_eq_true hf3, decide_eq_false hf4, Option.bind_some, Bool.not_false, cond_true]
  simp only [decide_eq_true hf1, decide_eq_true hf2, decide_eq_true hf3, decide_eq_true hf4, cond_true, Option.bind_some, Bool.not_true, cond_false]
  by_cases hd : (d.length : Int) > 60
  · simp only [decide_eq_true hd, cond_true]
  simp only [decide_eq_false hd, cond_false]
  rw [prog_Group_eq hx (by omega) (by omega) (by omega), Option.bind_some, ref_Group_eq (by omega) (by omega) (by omega), Option.bind_some]
  rw [show (grp x d != grp x d) = false by simp, cond_false]
  have hx0 : SymOk (Symbols.mk x.Decimal [0] x.Minus x.Percent x.Primary x.Secondary) := hx
  rw [prog_Group_eq hx0 (by simp) (by omega) (by omega), Option.bind_some]
  rw [iter_all (fun c => c != 0) true d (N := N) (fun k c hk => ?_) ?_ (by omega)]
  rotate_left
  · unfold calquelaw15_NumberGroup_b1
    simp
  · have hlt := (List.getElem?_eq_some_iff.1 hk).1
    unfold calquelaw15_NumberGroup_b1
    simp only [show decide ((k : Int) < (d.length : Int)) = true from decide_eq_true (by omega), cond_true, idx_some hk, Option.bind_some]
    by_cases hc : c = 0
    · subst hc; rfl
    · have : ((c.toNat : Int) == 0) = false := by
        rw [beq_eq_false_iff_ne]; intro e
        exact hc (UInt8.toNat_inj.1 (by show c.toNat = 0; omega))
      simp [this, hc]
  rw [Option.bind_some]
  cases hall : d.all (fun c => c != 0) with
  | false => rfl
  | true =>
    simp only [if_true, Sum.elim_inl]
    generalize hx1 : Symbols.mk x.Decimal [0] x.Minus x.Percent x.Primary x.Secondary = y
    have hy1 : y.Group = [0] := by rw [← hx1]
    have hy2 : y.Primary = x.Primary := by rw [← hx1]
    have hlen := grp_len (x := y) (d := d) (by rw [hy1]; decide) gsz_pos
    have hi := gb2 (N0 := N) (s := grp y d) (by omega) (grp y d).length 0 N ([], 0, 0) (by omega) (by omega) (by simp) (by simp) (by simp) (by simp) (by simp)
    rw [List.drop_zero] at hi
    rw [show (iter (fun s => calquelaw15_NumberGroup_b2 N (grp y d) s.1 s.2.1 s.2.2.1 s.2.2.2) N ([], 0, 0, 0)) = _ from hi, Option.bind_some]
    have hclean : ∀ t : List UInt8, (∀ c ∈ t, c ∈ d) → t.all (· != 0) = true := fun t ht => by
      rw [List.all_eq_true] at hall ⊢
      exact fun c hc => hall c (ht c hc)
    have hfil : ∀ t : List UInt8, (∀ c ∈ t, c ∈ d) → t.filter (· != 0) = t := fun t ht => by
      rw [List.filter_eq_self]
      exact List.all_eq_true.1 (hclean t ht)
    have h1 : ((grp y d).foldl gstep ([], 0, 0)).1 = d := by
      rw [gfold_rest, List.nil_append]
      unfold grp
      split
      · exact hfil d (fun c hc => hc)
      · rw [gt_filter (by rw [hy1]; rfl), hfil _ (fun c hc => List.mem_of_mem_take hc), List.filter_append, hfil _ (fun c hc => List.mem_of_mem_drop hc), hy1]
        rw [show List.filter (fun x => x != 0) ([0] : List UInt8) = [] from rfl, List.nil_append, List.take_append_drop]
    have h2 : ((grp y d).foldl gstep ([], 0, 0)).2.2 = 0 ∨ ((grp y d).foldl gstep ([], 0, 0)).2.1 = x.Primary := by
      unfold grp
      split
      · left
        rw [gfold_clean d _ (hclean d fun c hc => hc)]
      · rename_i h0
        right
        obtain ⟨p, hp⟩ := gt_end (sz := (gsz y).toNat) (sep := y.Group) d.length (d.take (d.length - y.Primary.toNat)) (y.Group ++ d.drop (d.length - y.Primary.toNat))
        rw [hp, hy1, List.foldl_append, List.foldl_append]
        rw [gfold_clean _ _ (hclean _ fun c hc => List.mem_of_mem_drop hc)]
        simp only [List.foldl_cons, List.foldl_nil, gstep, if_true, List.length_drop]
        rw [hy2] at h0 ⊢
        omega
    rw [h1]
    simp only [beq_self_eq_true, cond_true]
    rcases h2 with h2 | h2
    · rw [h2]; rfl
    · rw [h2]
      cases (((grp y d).foldl gstep ([], 0, 0)).2.2 == 0) <;> simp
end Go.Proofs.YthecjdgffboedaaDoor
