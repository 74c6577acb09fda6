/- Valid and Holds: the program's and the reference's are one function; the law ConditionHolds. -/
import Derived.Test.YtboacfcnmhnbdaaGreatDoorCndB
import Derived.KernelRfl
set_option linter.unusedVariables false
namespace Go.Proofs.YtboacfcnmhnbdaaGreatDoor
open Go.X

/-! ### sizes -/
theorem mem_sum {α : Type} {f : α → Nat} : ∀ {l : List α} {x : α}, x ∈ l → f x ≤ (l.map f).sum
  | [], _, h => by cases h
  | y :: l, x, h => by
    rw [List.map_cons, List.sum_cons]
    rcases List.mem_cons.1 h with rfl | h
    · omega
    · have := mem_sum (f := f) h; omega
abbrev Cnd := List (List Relation)
def sz (c : Cnd) : Nat := c.length + (c.map fun l => l.length + (l.map fun r => r.Spans.length).sum).sum
structure Sz (N : Nat) (c : Cnd) : Prop where
  n : 3000 ≤ N
  len : c.length < N
  lens : ∀ l ∈ c, l.length < N
  spans : ∀ l ∈ c, ∀ r ∈ l, r.Spans.length < N
theorem Sz.of {N : Nat} {c : Cnd} (h : sz c + 3000 ≤ N) : Sz N c := by
  unfold sz at h
  refine ⟨by omega, by omega, fun l hl => ?_, fun l hl r hr => ?_⟩
  · have := mem_sum (f := fun l : List Relation => l.length + (l.map fun r => r.Spans.length).sum) hl
    try simp only at this
    omega
  · have := mem_sum (f := fun l : List Relation => l.length + (l.map fun r => r.Spans.length).sum) hl
    have h2 := mem_sum (f := fun r : Relation => r.Spans.length) hr
    try simp only at this h2
    omega

/-! ### relations -/
def per (o m : Int) : Bool := if o = 1 ∨ o = 2 then ([2, 3, 4, 5, 6, 10, 20, 25, 50, 100] : List Int).contains m else if o = 5 ∨ o = 6 then decide (m = 10 ∨ m = 100) else false
def gr (o : Int) : Int := if o = 3 ∨ o = 4 then 6 else 100
def spn (o : Int) (s : Span) : Bool := decide (0 ≤ s.From) && (decide (s.From ≤ s.To) && decide (s.To ≤ gr o))
def prp (r : Relation) : Bool := decide (1 ≤ r.Operand) && (decide (r.Operand ≤ 6) && ((decide (r.Mod = 0) || per r.Operand r.Mod) && (decide (1 ≤ r.Spans.length) && (decide (r.Spans.length ≤ 4) && r.Spans.all (spn r.Operand)))))

theorem greatest_eq (N : Nat) (o : Int) : condition_greatest N o = some (gr o) := by
  unfold condition_greatest gr
  simp only [beq_op, Bool.cond_decide]
  repeat' split
  all_goals first | rfl | omega
theorem Bound_eq (N : Nat) (o : Int) : calqueref08_Bound N o = some (gr o) := greatest_eq N o
theorem slices_find {N : Nat} (l : List Int) (m : Int) (hN : l.length < N) : slices_Contains_int_int N l m = some (l.contains m) := by
  unfold slices_Contains_int_int slices_Index_int_int
  rw [iter_find l (fun x => m == x) (fun k x hk => ?_) ?_ N hN, find_any]
  · simp only [Option.bind_some, find_ge]
    rw [List.contains_eq_any_beq]
  · unfold slices_Index_int_int_b1
    simp only [dnlt, cond_false]
  · unfold slices_Index_int_int_b1
    simp only [dltx hk, cond_true, idx_some hk, Option.bind_some]
    cases (m == x) <;> rfl
theorem permitted_eq {N : Nat} (hN : 3000 ≤ N) (o m : Int) : condition_permitted N o m = some (per o m) := by
  unfold condition_permitted per
  rw [slices_find _ _ (by simp; omega)]
  simp only [beq_op, Bool.cond_decide, Option.bind_some]
  by_cases h1 : o = 1
  · simp [h1]
  · by_cases h2 : o = 2
    · simp [h2]
    · by_cases h5 : o = 5
      · subst h5; by_cases h : m = 10 <;> simp [h]
      · by_cases h6 : o = 6
        · subst h6; by_cases h : m = 10 <;> simp [h]
        · simp [h1, h2, h5, h6]
theorem has_eq {N : Nat} (l : List Int) (m : Int) (hN : l.length < N) : calqueref08_has N l m = some (l.contains m) := by
  unfold calqueref08_has
  rw [iter_anyL (fun x => x == m) l (fun k x hk => ?_) ?_ N hN]
  · have e : l.any (fun x => x == m) = l.contains m := by
      rw [List.contains_eq_any_beq]
      congr 1
      funext x
      rw [Bool.eq_iff_iff, beq_iff_eq, beq_iff_eq]; exact eq_comm
    rw [← e]
    cases l.any (fun x => x == m) <;> rfl
  · unfold calqueref08_has_b1
    simp only [dnlt, cond_false]
  · unfold calqueref08_has_b1
    simp only [dltx hk, cond_true, idx_some hk, Option.bind_some]
    cases (x == m) <;> rfl
theorem Mods_has {N : Nat} (hN : 3000 ≤ N) (o m : Int) : ((calqueref08_Mods N o).bind fun l => calqueref08_has N l m) = some (per o m) := by
  unfold calqueref08_Mods per
  simp only [beq_op, Bool.cond_decide]
  by_cases h1 : o = 1
  · simp only [h1, if_true, Option.bind_some, decide_true, cond_true, true_or]; rw [has_eq _ _ (by simp; omega)]
  · by_cases h2 : o = 2
    · subst h2
      simp only [show ¬ (2 : Int) = 1 by decide, if_false, Option.bind_some, decide_true, cond_true, false_or, if_true]; rw [has_eq _ _ (by simp; omega)]
    · by_cases h5 : o = 5
      · subst h5
        simp only [show ¬ (5 : Int) = 1 by decide, show ¬ (5 : Int) = 2 by decide, or_self, if_false, decide_false, cond_false, Option.bind_some, decide_true, cond_true, true_or, if_true]; rw [has_eq _ _ (by simp; omega)]
        by_cases h : m = 10 <;> simp [h]
      · by_cases h6 : o = 6
        · subst h6
          simp only [show ¬ (6 : Int) = 1 by decide, show ¬ (6 : Int) = 2 by decide, show ¬ (6 : Int) = 5 by decide, or_self, if_false, decide_false, cond_false, Option.bind_some, decide_true, cond_true, false_or, if_true]; rw [has_eq _ _ (by simp; omega)]
          by_cases h : m = 10 <;> simp [h]
        · simp only [h1, h2, h5, h6, or_self, if_false, decide_false, cond_false, Option.bind_some]
          rw [has_eq _ _ (by simp; omega)]
          simp

theorem span_loop {body : Int → Option (Int ⊕ (Unit ⊕ Bool))} (o : Int) (l : List Span) (h : ∀ (k : Nat) x, l[k]? = some x → body k = (bif decide (x.From < 0) then some (.inr (.inr false)) else bif decide (x.From > x.To) then some (.inr (.inr false)) else (some (gr o)).bind fun r => bif decide (x.To > r) then some (.inr (.inr false)) else some (.inl ((k : Int) + 1)))) (h2 : body l.length = some (.inr (.inl ()))) {N : Nat} (hN : l.length < N) :
    ((iter body N 0).bind fun o33 => Sum.elim (fun _ => some true) (fun o => some o) o33) = some (l.all (spn o)) := by
  rw [iter_allL (spn o) l (fun k x hk => ?_) h2 N hN]
  · cases l.all (spn o) <;> rfl
  · rw [h k x hk]
    unfold spn
    simp only [Option.bind_some]
    by_cases a : x.From < 0
    · simp [a, show ¬ 0 ≤ x.From by omega]
    · by_cases b : x.From > x.To
      · simp [a, b, show ¬ x.From ≤ x.To by omega]
      · by_cases c : x.To > gr o
        · simp [a, b, c, show ¬ x.To ≤ gr o by omega]
        · simp [a, b, c, show 0 ≤ x.From by omega, show x.From ≤ x.To by omega, show x.To ≤ gr o by omega]

theorem proper_eq {N : Nat} (hN : 3000 ≤ N) {r : Relation} (hs : r.Spans.length < N) : condition_proper N r = some (prp r) := by
  have s1 : ((iter (fun s => condition_proper_b1 N r s) N 0).bind fun o33 => Sum.elim (fun _ => some true) (fun o => some o) o33) = some (r.Spans.all (spn r.Operand)) := by
    refine span_loop r.Operand r.Spans (fun k x hk => ?_) ?_ hs
    · unfold condition_proper_b1
      simp only [dltx hk, cond_true, idx_some hk, Option.bind_some, greatest_eq]
    · unfold condition_proper_b1
      simp only [dnlt, cond_false]
  have s2 : ((iter (fun s => condition_proper_b2 N r s) N 0).bind fun o33 => Sum.elim (fun _ => some true) (fun o => some o) o33) = some (r.Spans.all (spn r.Operand)) := s1
  unfold condition_proper prp
  rw [permitted_eq hN]
  simp only [Option.bind_some, s1, s2]
  by_cases h1 : r.Operand < 1
  · simp [h1, show ¬ 1 ≤ r.Operand by omega]
  · by_cases h2 : r.Operand > 6
    · simp [h1, h2, show 1 ≤ r.Operand by omega, show ¬ r.Operand ≤ 6 by omega]
    · simp only [decide_eq_false h1, decide_eq_false h2, cond_false, decide_eq_true (show 1 ≤ r.Operand by omega), decide_eq_true (show r.Operand ≤ 6 by omega), Bool.true_and]
      by_cases h4 : (r.Spans.length : Int) < 1
      · by_cases hm : r.Mod = 0
        · simp [hm, h4, show ¬ 1 ≤ r.Spans.length by omega]
        · cases per r.Operand r.Mod <;> simp [show (r.Mod != 0) = true by simp [hm], hm, h4, show ¬ 1 ≤ r.Spans.length by omega]
      · by_cases h5 : (r.Spans.length : Int) > 4
        · by_cases hm : r.Mod = 0
          · simp [hm, h4, h5, show ¬ r.Spans.length ≤ 4 by omega]
          · cases per r.Operand r.Mod <;> simp [show (r.Mod != 0) = true by simp [hm], hm, h4, h5, show ¬ r.Spans.length ≤ 4 by omega]
        · by_cases hm : r.Mod = 0
          · simp [hm, h4, h5, show 1 ≤ r.Spans.length by omega, show r.Spans.length ≤ 4 by omega]
          · cases per r.Operand r.Mod <;> simp [show (r.Mod != 0) = true by simp [hm], hm, h4, h5, show 1 ≤ r.Spans.length by omega, show r.Spans.length ≤ 4 by omega]
theorem ref_proper_eq {N : Nat} (hN : 3000 ≤ N) {r : Relation} (hs : r.Spans.length < N) : calqueref08_proper N r = some (prp r) := by
  have s1 : ((iter (fun s => calqueref08_proper_b1 N r s) N 0).bind fun o33 => Sum.elim (fun _ => some true) (fun o => some o) o33) = some (r.Spans.all (spn r.Operand)) := by
    refine span_loop r.Operand r.Spans (fun k x hk => ?_) ?_ hs
    · unfold calqueref08_proper_b1
      simp only [dltx hk, cond_true, idx_some hk, Option.bind_some, Bound_eq]
    · unfold calqueref08_proper_b1
      simp only [dnlt, cond_false]
  have hm0 := Mods_has hN r.Operand r.Mod
  have hm1 : ∀ (f : Bool → Option Bool), ((calqueref08_Mods N r.Operand).bind fun l => (calqueref08_has N l r.Mod).bind f) = f (per r.Operand r.Mod) := fun f => by
    rw [← Option.bind_assoc, hm0]; rfl
  unfold calqueref08_proper prp
  rw [hm1]
  simp only [s1]
  by_cases h1 : r.Operand < 1
  · simp [h1, show ¬ 1 ≤ r.Operand by omega]
  · by_cases h2 : r.Operand > 6
    · simp [h1, h2, show 1 ≤ r.Operand by omega, show ¬ r.Operand ≤ 6 by omega]
    · simp only [decide_eq_false h1, decide_eq_false h2, cond_false, decide_eq_true (show 1 ≤ r.Operand by omega), decide_eq_true (show r.Operand ≤ 6 by omega), Bool.true_and]
      by_cases h4 : (r.Spans.length : Int) < 1
      · by_cases hm : r.Mod = 0
        · simp [hm, h4, show ¬ 1 ≤ r.Spans.length by omega]
        · cases per r.Operand r.Mod <;> simp [show (r.Mod != 0) = true by simp [hm], hm, h4, show ¬ 1 ≤ r.Spans.length by omega]
      · by_cases h5 : (r.Spans.length : Int) > 4
        · by_cases hm : r.Mod = 0
          · simp [hm, h4, h5, show ¬ r.Spans.length ≤ 4 by omega]
          · cases per r.Operand r.Mod <;> simp [show (r.Mod != 0) = true by simp [hm], hm, h4, h5, show ¬ r.Spans.length ≤ 4 by omega]
        · by_cases hm : r.Mod = 0
          · simp [hm, h4, h5, show 1 ≤ r.Spans.length by omega, show r.Spans.length ≤ 4 by omega]
          · cases per r.Operand r.Mod <;> simp [show (r.Mod != 0) = true by simp [hm], hm, h4, h5, show 1 ≤ r.Spans.length by omega, show r.Spans.length ≤ 4 by omega]

/-! ### conditions -/
def tot (c : Cnd) : Int := (c.map fun l => (l.length : Int)).sum
def fine (l : List Relation) : Bool := !(l.length == 0) && l.all prp
def vd (c : Cnd) : Bool := decide (0 < c.length) && (c.all fine && decide (IntKind.wrap .i64 (tot c) ≤ 6))
theorem wrap_wrap (a b : Int) : IntKind.wrap .i64 (IntKind.wrap .i64 a + b) = IntKind.wrap .i64 (a + b) := by
  simp only [IntKind.wrap, IntKind.bits, IntKind.signed]
  simp
  repeat' split
  all_goals omega
def fV (n : Int) (l : List Relation) : Int ⊕ (Int ⊕ Bool) := if fine l then .inl (IntKind.wrap .i64 (n + l.length)) else .inr (.inr false)
theorem run_fV : ∀ (c : Cnd) (n : Int), run fV (fun n => .inl n) (IntKind.wrap .i64 n) c = if c.all fine then .inl (IntKind.wrap .i64 (n + tot c)) else .inr false
  | [], n => by simp [run, tot]
  | l :: c, n => by
    rw [run]
    cases h : fine l with
    | false => rw [show fV (IntKind.wrap .i64 n) l = .inr (.inr false) by unfold fV; rw [h]; rfl]; simp [h]
    | true =>
      rw [show fV (IntKind.wrap .i64 n) l = .inl (IntKind.wrap .i64 (n + l.length)) by unfold fV; rw [h, wrap_wrap]; rfl]
      simp only [List.all_cons, h, Bool.true_and]
      have ih := run_fV c (n + l.length)
      rw [ih]
      simp only [tot, List.map_cons, List.sum_cons, Int.add_assoc]
theorem vd_of (c : Cnd) : ((some (run fV (fun n => Sum.inl n) 0 c)).bind fun o3 => Sum.elim (fun o3 => bif decide ((c.length : Int) > 0) then some (decide (o3 ≤ (6 : Int))) else some false) (fun o3 => some o3) o3) = some (vd c) := by
  have := run_fV c 0
  rw [show IntKind.wrap .i64 (0 : Int) = 0 by decide] at this
  rw [this]
  unfold vd
  cases c.all fine with
  | false => simp
  | true =>
    simp only [if_true, Option.bind_some, Sum.elim_inl, Int.zero_add, Bool.true_and]
    by_cases h : 0 < c.length
    · simp [h]
    · have h' : ¬ (c.length : Int) > 0 := by omega
      rw [decide_eq_false h', decide_eq_false h]; rfl
theorem Valid_eq {N : Nat} {c : Cnd} (S : Sz N c) : condition_Valid N c = some (vd c) := by
  unfold condition_Valid
  rw [show ((0 : Int), (0 : Int)) = (fun n k => (n, k)) (0 : Int) (0 : Int) from rfl, iter_list' (body := fun s => condition_Valid_b1 N c s.1 s.2) (fun (n : Int) k => (n, k)) c fV (fun n => .inl n) (fun n k l hk => ?_) (fun n => ?_) N 0 S.len]
  · exact vd_of c
  · have hl := List.mem_of_getElem? hk
    show condition_Valid_b1 N c n k = _
    unfold condition_Valid_b1
    simp only [dltx hk, cond_true, idx_some hk, Option.bind_some]
    have hc : slices_ContainsFunc_api_Relation_api_Relation__57 N l = some (l.any fun r => !prp r) := by
      unfold slices_ContainsFunc_api_Relation_api_Relation__57 slices_IndexFunc_api_Relation_api_Relation__57
      rw [iter_find l (fun r => !prp r) (fun k r hk => ?_) ?_ N (S.lens l hl), find_any]
      · simp only [Option.bind_some, find_ge]
      · unfold slices_IndexFunc_api_Relation_api_Relation__57_b1
        simp only [dnlt, cond_false]
      · unfold slices_IndexFunc_api_Relation_api_Relation__57_b1 condition_Valid_1
        simp only [dltx hk, cond_true, idx_some hk, Option.bind_some, proper_eq S.n (S.spans l hl r (List.mem_of_getElem? hk))]
        cases prp r <;> rfl
    rw [hc]
    unfold fV fine
    have e : (l.any fun r => !prp r) = !(l.all prp) := by
      rw [List.not_all_eq_any_not]
    rw [e]
    simp only [Option.bind_some]
    cases l with
    | nil => rfl
    | cons r l =>
      have : (((r :: l).length : Int) == 0) = false := by simp only [List.length_cons, beq_eq_false_iff_ne]; omega
      rw [this]
      cases (r :: l).all prp <;> rfl
  · show condition_Valid_b1 N c n c.length = _
    unfold condition_Valid_b1
    simp only [dnlt, cond_false]
theorem ref_Valid_c {N : Nat} {c : Cnd} (S : Sz N c) : calqueref08_Valid N c = some (vd c) := by
  unfold calqueref08_Valid
  rw [show ((0 : Int), (0 : Int)) = (fun n k => (n, k)) (0 : Int) (0 : Int) from rfl, iter_list (body := fun s => calqueref08_Valid_b1 N c s.1 s.2) (fun (n : Int) k => (n, k)) c fV (fun n => .inl n) (fun _ n => InR .i64 n) (fun n k l hk hI => ?_) (fun n _ => ?_) N 0 S.len (show InR .i64 0 by decide)]
  · exact vd_of c
  · have hl := List.mem_of_getElem? hk
    constructor
    · show calqueref08_Valid_b1 N c n k = _
      unfold calqueref08_Valid_b1
      simp only [dltx hk, cond_true, idx_some hk, Option.bind_some]
      have hrun : ∀ (xs : List Relation) (n : Int), run (σ := Int) (β := Int ⊕ Bool) (fun n r => if prp r then .inl (IntKind.wrap .i64 (n + 1)) else .inr (.inr false)) (fun n => .inl n) (IntKind.wrap .i64 n) xs = if xs.all prp then .inl (IntKind.wrap .i64 (n + xs.length)) else .inr false := by
        intro xs
        induction xs with
        | nil => intro n; simp [run]
        | cons r xs ih =>
          intro n
          unfold run
          cases h : prp r with
          | false => simp [h]
          | true =>
            simp only [if_true, wrap_wrap, List.all_cons, h, Bool.true_and]
            rw [ih (n + 1)]
            simp only [List.length_cons]
            congr 3
            omega
      have hin : iter (fun s => calqueref08_Valid_b2 N c k s.1 s.2) N (n, 0) = some (if l.all prp then .inl (IntKind.wrap .i64 (n + l.length)) else .inr false) := by
        have h := iter_list' (body := fun s : Int × Int => calqueref08_Valid_b2 N c k s.1 s.2) (fun (n : Int) k => (n, k)) l (fun n r => if prp r then .inl (IntKind.wrap .i64 (n + 1)) else .inr (.inr false)) (fun n => .inl n) (fun n j r hj => ?_) (fun n => ?_) N n (S.lens l hl)
        · rw [show ((n, (0 : Int)) : Int × Int) = (fun n k => (n, k)) n (0 : Int) from rfl, h]
          have := hrun l n
          rw [wrap_of hI] at this
          rw [this]
        · show calqueref08_Valid_b2 N c k n j = _
          unfold calqueref08_Valid_b2
          simp only [idx_some hk, Option.bind_some, dltx hj, cond_true, idx_some hj, ref_proper_eq S.n (S.spans l hl r (List.mem_of_getElem? hj))]
          cases prp r <;> rfl
        · show calqueref08_Valid_b2 N c k n l.length = _
          unfold calqueref08_Valid_b2
          simp only [idx_some hk, Option.bind_some, dnlt, cond_false]
      rw [hin]
      unfold fV fine
      cases l with
      | nil => rfl
      | cons r l =>
        have : (((r :: l).length : Int) == 0) = false := by simp only [List.length_cons, beq_eq_false_iff_ne]; omega
        rw [this]
        cases (r :: l).all prp <;> rfl
    · intro n' h
      unfold fV at h
      split at h
      · cases h; exact InR.wrap _ _
      · cases h
  · show calqueref08_Valid_b1 N c n c.length = _
    unfold calqueref08_Valid_b1
    simp only [dnlt, cond_false]

/-! ### what holds -/
def ins (l : List Span) (n : Int) : Bool := l.any fun s => decide (s.From ≤ n) && decide (n ≤ s.To)
def red (r : Relation) (n : Int) : Int := if r.Mod = 0 then n else n.tmod r.Mod
def hold (s : List UInt8) (r : Relation) : Bool := if (opd s r.Operand).2 = 0 then (ins r.Spans (red r (opd s r.Operand).1)) != r.Not else r.Not
def hd (s : List UInt8) (c : Cnd) : Bool := c.any fun l => l.all (hold s)
theorem in_eq {N : Nat} {l : List Span} {n : Int} (hN : l.length < N) : condition_in N l n = some (ins l n) := by
  unfold condition_in slices_ContainsFunc_api_Span_api_Span__108 slices_IndexFunc_api_Span_api_Span__108
  rw [iter_find l (fun s => decide (s.From ≤ n) && decide (n ≤ s.To)) (fun k s hk => ?_) ?_ N hN, find_any]
  · simp only [Option.bind_some, find_ge]; rfl
  · unfold slices_IndexFunc_api_Span_api_Span__108_b1
    simp only [dnlt, cond_false]
  · unfold slices_IndexFunc_api_Span_api_Span__108_b1 condition_in_1
    simp only [dltx hk, cond_true, idx_some hk, Option.bind_some]
    by_cases h1 : s.From ≤ n
    · by_cases h2 : n ≤ s.To <;> simp [h1, h2]
    · simp [h1]
theorem Inside_eq {N : Nat} {l : List Span} {n : Int} (hN : l.length < N) : calqueref08_Inside N l n = some (ins l n) := by
  unfold calqueref08_Inside
  rw [iter_anyL (fun s => decide (s.From ≤ n) && decide (n ≤ s.To)) l (fun k s hk => ?_) ?_ N hN]
  · unfold ins; cases l.any (fun s => decide (s.From ≤ n) && decide (n ≤ s.To)) <;> rfl
  · unfold calqueref08_Inside_b1
    simp only [dnlt, cond_false]
  · unfold calqueref08_Inside_b1
    simp only [dltx hk, cond_true, idx_some hk, Option.bind_some]
    by_cases h1 : s.From ≤ n
    · by_cases h2 : n ≤ s.To <;> simp [h1, h2]
    · simp [h1]
theorem holds_eq {N : Nat} {r : Relation} {s : List UInt8} (hs : s.length ≤ 1000) (hN : r.Spans.length < N) : condition_holds N r s = some (hold s r) := by
  unfold condition_holds hold
  rw [prog_Operand_eq hs]
  simp only [Option.bind_some]
  by_cases h : (opd s r.Operand).2 = 0
  · rw [if_pos h, show ((opd s r.Operand).2 != 0) = false by simp [h]]
    simp only [cond_false]
    by_cases hm : r.Mod = 0
    · simp only [hm, show ((0 : Int) != 0) = false from rfl, cond_false, Option.bind_some, in_eq hN, red, if_true]
    · simp only [show (r.Mod != 0) = true by simp [hm], cond_true, rm, if_neg hm, Option.bind_some, in_eq hN, red]
  · rw [if_neg h, show ((opd s r.Operand).2 != 0) = true by simp [h]]; rfl
theorem Relation_eq {N : Nat} {r : Relation} {s : List UInt8} (hs : s.length ≤ 1000) (h3 : 3000 ≤ N) (hN : r.Spans.length < N) : calqueref08_Relation N r s = some (hold s r) := by
  unfold calqueref08_Relation hold
  rw [ref_Operand_eq hs h3]
  simp only [Option.bind_some]
  by_cases h : (opd s r.Operand).2 = 0
  · rw [if_pos h, show ((opd s r.Operand).2 != 0) = false by simp [h]]
    simp only [cond_false]
    by_cases hm : r.Mod = 0
    · simp only [hm, show ((0 : Int) != 0) = false from rfl, cond_false, Option.bind_some, Inside_eq hN, red, if_true]
    · simp only [show (r.Mod != 0) = true by simp [hm], cond_true, rm, if_neg hm, Option.bind_some, Inside_eq hN, red]
  · rw [if_neg h, show ((opd s r.Operand).2 != 0) = true by simp [h]]; rfl
def hr (c : Cnd) (s : List UInt8) : Bool × Int := if vd c && vld s then (hd s c, 0) else (false, 1)
theorem Holds_eq {N : Nat} {c : Cnd} {s : List UInt8} (S : Sz N c) (hs : s.length ≤ 1000) : condition_Holds N c s = some (hr c s) := by
  unfold condition_Holds hr
  rw [Valid_eq S, decimal_Valid_eq hs]
  have hc : slices_ContainsFunc_api_Cond_api_Relation__50 N c s = some (hd s c) := by
    unfold slices_ContainsFunc_api_Cond_api_Relation__50 slices_IndexFunc_api_Cond_api_Relation__50
    rw [iter_find c (fun l => l.all (hold s)) (fun k l hk => ?_) ?_ N S.len, find_any]
    · simp only [Option.bind_some, find_ge]; rfl
    · unfold slices_IndexFunc_api_Cond_api_Relation__50_b1
      simp only [dnlt, cond_false]
    · have hl := List.mem_of_getElem? hk
      unfold slices_IndexFunc_api_Cond_api_Relation__50_b1 condition_Holds_1 slices_ContainsFunc_api_Relation_api_Relation__52 slices_IndexFunc_api_Relation_api_Relation__52
      simp only [dltx hk, cond_true, idx_some hk, Option.bind_some]
      rw [iter_find l (fun r => !hold s r) (fun j r hj => ?_) ?_ N (S.lens l hl), find_any]
      · simp only [Option.bind_some, find_ge]
        rw [show (l.any fun r => !hold s r) = !(l.all (hold s)) by rw [List.not_all_eq_any_not], Bool.not_not]
        cases l.all (hold s) <;> rfl
      · unfold slices_IndexFunc_api_Relation_api_Relation__52_b1
        simp only [dnlt, cond_false]
      · unfold slices_IndexFunc_api_Relation_api_Relation__52_b1 condition_Holds_1_1
        simp only [dltx hj, cond_true, idx_some hj, Option.bind_some, holds_eq hs (S.spans l hl r (List.mem_of_getElem? hj))]
        cases hold s r <;> rfl
  rw [hc]
  simp only [Option.bind_some]
  cases vd c <;> cases vld s <;> rfl
theorem ref_Holds_eq {N : Nat} {c : Cnd} {s : List UInt8} (S : Sz N c) (hs : s.length ≤ 1000) : calqueref08_Holds N c s = some (hr c s) := by
  unfold calqueref08_Holds hr
  rw [ref_Valid_c S, ref_Valid_eq hs S.n]
  have hc : iter (fun s_1 => calqueref08_Holds_b1 N c s s_1) N 0 = some (if hd s c then .inr (true, 0) else .inl ()) := by
    have e : ∀ xs : Cnd, run (σ := Unit) (β := Unit ⊕ (Bool × Int)) (fun _ l => if l.all (hold s) then .inr (.inr (true, 0)) else .inl ()) (fun _ => .inl ()) () xs = if hd s xs then .inr (true, 0) else .inl () := by
      intro xs
      induction xs with
      | nil => rfl
      | cons l xs ih =>
        unfold run
        unfold hd at ih ⊢
        cases h : l.all (hold s) with
        | true => simp [h]
        | false => simp only [Bool.false_eq_true, if_false, ih, List.any_cons, h, Bool.false_or]
    rw [← e c]
    refine iter_list' (σ := Unit) (fun _ k => k) c _ _ (fun _ k l hk => ?_) (fun _ => ?_) N () S.len
    · have hl := List.mem_of_getElem? hk
      unfold calqueref08_Holds_b1
      have hrun : ∀ (xs : List Relation) (b : Bool), run (σ := Bool) (β := Bool) (fun b r => .inl (b && hold s r)) (fun b => b) b xs = (b && xs.all (hold s)) := by
        intro xs
        induction xs with
        | nil => intro b; simp [run]
        | cons r xs ih => intro b; unfold run; simp only [ih, List.all_cons, Bool.and_assoc]
      have hin : iter (fun s_1 => calqueref08_Holds_b2 N c s k s_1.1 s_1.2) N (true, 0) = some (l.all (hold s)) := by
        have h := iter_list' (body := fun s_1 : Bool × Int => calqueref08_Holds_b2 N c s k s_1.1 s_1.2) (fun (b : Bool) k => (b, k)) l (fun b r => .inl (b && hold s r)) (fun b => b) (fun b j r hj => ?_) (fun b => ?_) N true (S.lens l hl)
        · rw [show ((true, (0 : Int)) : Bool × Int) = (fun b k => (b, k)) true (0 : Int) from rfl, h, hrun]; rfl
        · show calqueref08_Holds_b2 N c s k b j = _
          unfold calqueref08_Holds_b2
          simp only [idx_some hk, Option.bind_some, dltx hj, cond_true, idx_some hj, Relation_eq hs S.n (S.spans l hl r (List.mem_of_getElem? hj))]
          cases b <;> rfl
        · show calqueref08_Holds_b2 N c s k b l.length = _
          unfold calqueref08_Holds_b2
          simp only [idx_some hk, Option.bind_some, dnlt, cond_false]
      simp only [dltx hk, cond_true, hin, Option.bind_some]
      cases l.all (hold s) <;> rfl
    · unfold calqueref08_Holds_b1
      simp only [dnlt, cond_false]
  rw [hc]
  simp only [Option.bind_some]
  cases vd c <;> cases vld s <;> cases hd s c <;> rfl

theorem Few_some {N : Nat} {c : Cnd} (S : Sz N c) : ∃ b, calqueref08_Few N c = some b := by
  unfold calqueref08_Few
  have hin : ∀ (n : Int) (k : Nat) l, c[k]? = some l → ∃ n', iter (fun s => calqueref08_Few_b2 N c k s.1 s.2) N (n, 0) = some n' := by
    intro n k l hk
    have h := iter_list' (body := fun s : Int × Int => calqueref08_Few_b2 N c k s.1 s.2) (fun (n : Int) k => (n, k)) l (fun n r => .inl (IntKind.wrap .i64 (n + (IntKind.wrap .i64 ((1 : Int) + (r.Spans.length : Int)))))) (fun n => n) (fun n j r hj => ?_) (fun n => ?_) N n (S.lens l (List.mem_of_getElem? hk))
    · exact ⟨_, h⟩
    · show calqueref08_Few_b2 N c k n j = _
      unfold calqueref08_Few_b2
      simp only [idx_some hk, Option.bind_some, dltx hj, cond_true, idx_some hj]
    · show calqueref08_Few_b2 N c k n l.length = _
      unfold calqueref08_Few_b2
      simp only [idx_some hk, Option.bind_some, dnlt, cond_false]
  let g : Int → Nat → Int := fun n k => (iter (fun s => calqueref08_Few_b2 N c k s.1 s.2) N (n, 0)).getD 0
  have hg : ∀ (n : Int) (k : Nat) l, c[k]? = some l → iter (fun s => calqueref08_Few_b2 N c k s.1 s.2) N (n, 0) = some (g n k) := by
    intro n k l hk
    obtain ⟨n', h⟩ := hin n k l hk
    show _ = some ((iter _ N (n, 0)).getD 0)
    rw [h]; rfl
  have h := iter_list (body := fun s : Int × Int => calqueref08_Few_b1 N c s.1 s.2) (σ := Int × Nat) (fun n k => (n.1, k)) c (fun n _ => if g n.1 n.2 > 80 then .inr (.inr false) else .inl (g n.1 n.2, n.2 + 1)) (fun _ => .inl ()) (fun k n => n.2 = k) (fun n k l hk hI => ?_) (fun n _ => ?_) N (0, 0) S.len rfl
  · rw [show ((0 : Int), (0 : Int)) = (fun (n : Int × Nat) (k : Int) => (n.1, k)) (0, 0) (0 : Int) from rfl, h]
    cases run _ _ ((0 : Int), (0 : Nat)) c with
    | inl _ => exact ⟨_, rfl⟩
    | inr b => exact ⟨_, rfl⟩
  · subst hI
    constructor
    · show calqueref08_Few_b1 N c n.1 n.2 = _
      unfold calqueref08_Few_b1
      simp only [dltx hk, cond_true, hg n.1 n.2 l hk, Option.bind_some]
      by_cases h : g n.1 n.2 > 80
      · simp [h]
      · simp [h]
    · intro s' h
      split at h
      · cases h
      · cases h; rfl
  · show calqueref08_Few_b1 N c n.1 c.length = _
    unfold calqueref08_Few_b1
    simp only [dnlt, cond_false]
theorem hr_eq2 (x : Bool × Int) : (bif (x.1 == x.1) then some (x.2 == x.2) else some false) = some true := by simp
end Go.Proofs.YtboacfcnmhnbdaaGreatDoor
