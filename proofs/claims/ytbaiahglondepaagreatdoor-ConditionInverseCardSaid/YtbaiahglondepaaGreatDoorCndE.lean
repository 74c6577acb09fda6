/- The law ConditionSpans. -/
import Derived.Test.YtbaiahglondepaaGreatDoorCndD
set_option linter.unusedVariables false
namespace Go.Proofs.YtbaiahglondepaaGreatDoor
open Go.X

/-! ### a loop that goes down along a list -/
def dn {σ α : Type} (f : σ → Nat → α → σ) (xs : List α) : Nat → σ → σ
  | 0, a => a
  | k + 1, a => match xs[k]? with
    | some x => dn f xs k (f a k x)
    | none => a
theorem iter_down {σ τ α β : Type} {body : τ → Option (τ ⊕ β)} (mk : σ → Int → τ) (xs : List α) (f : σ → Nat → α → σ) (fin : σ → β) (I : Nat → σ → Prop)
    (h1 : ∀ a (k : Nat) x, xs[k]? = some x → I (k + 1) a → body (mk a k) = some (.inl (mk (f a k x) ((k : Int) - 1))) ∧ I k (f a k x))
    (h2 : ∀ a, I 0 a → body (mk a (-1)) = some (.inr (fin a))) :
    ∀ (k N : Nat) (a : σ), k ≤ xs.length → k < N → I k a → iter body N (mk a ((k : Int) - 1)) = some (fin (dn f xs k a)) := by
  intro k
  induction k with
  | zero =>
    intro N a _ hN hI
    obtain ⟨N, rfl⟩ : ∃ M, N = M + 1 := ⟨N - 1, by omega⟩
    rw [show (((0 : Nat) : Int) - 1) = -1 by decide, iter, h2 a hI]; rfl
  | succ k ih =>
    intro N a hk hN hI
    obtain ⟨N, rfl⟩ : ∃ M, N = M + 1 := ⟨N - 1, by omega⟩
    have hx : xs[k]? = some xs[k] := List.getElem?_eq_getElem (by omega)
    obtain ⟨h3, h4⟩ := h1 a k _ hx hI
    rw [show (((k + 1 : Nat) : Int) - 1) = (k : Int) by omega, iter, h3]
    simp only [dn, hx]
    exact ih N _ (by omega) (by omega) h4
theorem dn_map {α γ : Type} (g : α → γ) (xs : List α) : ∀ (k : Nat) (a : List γ), k ≤ xs.length → dn (fun a _ x => a ++ [g x]) xs k a = a ++ ((xs.take k).map g).reverse := by
  intro k
  induction k with
  | zero => intro a _; simp [dn]
  | succ k ih =>
    intro a hk
    have hx : xs[k]? = some xs[k] := List.getElem?_eq_getElem (by omega)
    simp only [dn, hx]
    rw [ih _ (by omega), List.take_add_one, hx]
    simp only [Option.toList_some, List.map_append, List.map_cons, List.map_nil, List.reverse_append, List.reverse_cons, List.reverse_nil, List.nil_append, List.append_assoc, List.cons_append]

/-! ### the spans of the other condition -/
def cutS (a : Int) (s : Span) : List Span := [Span.mk (s.From + a.tmod (s.To - s.From) + 1) s.To, Span.mk s.From (s.From + a.tmod (s.To - s.From))]
def sp (a : Int) (xs : List Span) : List Span := match xs with
  | [] => []
  | s :: t => t.reverse ++ (if s.From < s.To ∧ xs.length < 4 then cutS a s else [s])
def stepS (a : Int) (n : Nat) (acc : List Span) (k : Nat) (x : Span) : List Span := acc ++ (if k = 0 ∧ x.From < x.To ∧ n < 4 then cutS a x else [x])
theorem dn_stepS (a : Int) (n : Nat) (xs : List Span) : ∀ (k : Nat) (acc : List Span), k ≤ xs.length → dn (stepS a n) xs k acc = acc ++ (match xs.take k with | [] => [] | s :: t => t.reverse ++ (if s.From < s.To ∧ n < 4 then cutS a s else [s])) := by
  intro k
  induction k with
  | zero => intro acc _; simp [dn]
  | succ k ih =>
    intro acc hk
    have hx : xs[k]? = some xs[k] := List.getElem?_eq_getElem (by omega)
    simp only [dn, hx]
    rw [ih _ (by omega)]
    cases xs with
    | nil => simp at hk
    | cons s t =>
      cases k with
      | zero => simp [stepS]
      | succ j =>
        have e : List.take (j + 1 + 1) (s :: t) = s :: (t.take j ++ [t[j]'(by simp at hk; omega)]) := by
          rw [List.take_succ_cons, List.take_add_one]
          have hj : t[j]? = some (t[j]'(by simp at hk; omega)) := List.getElem?_eq_getElem (by simp at hk; omega)
          rw [hj]; rfl
        rw [e, List.take_succ_cons]
        simp only [stepS, Nat.add_one_ne_zero, false_and, if_false, List.getElem_cons_succ, List.reverse_append, List.reverse_cons, List.reverse_nil, List.nil_append, List.append_assoc, List.cons_append]
theorem spn_iff {o : Int} {s : Span} : spn o s = true ↔ 0 ≤ s.From ∧ s.From ≤ s.To ∧ s.To ≤ gr o := by unfold spn; simp
theorem gr_le (o : Int) : gr o ≤ 100 := by unfold gr; split <;> omega
theorem tm {a d : Int} (ha : 0 ≤ a) (hd : 0 < d) : 0 ≤ a.tmod d ∧ a.tmod d < d := ⟨Int.tmod_nonneg _ ha, Int.tmod_lt_of_pos _ hd⟩
theorem spans_loop {N : Nat} {a : Int} {r : Relation} (h : prp r = true) (ha : 0 ≤ a) (hN : 3000 ≤ N) :
    iter (fun s => calquelaw08_ConditionSpans_b3 N a r s.1 s.2) N (([] : List Span), IntKind.wrap .i64 ((r.Spans.length : Int) - 1)) = some (sp a r.Spans) := by
  unfold prp at h
  simp only [Bool.and_eq_true, decide_eq_true_eq] at h
  obtain ⟨_, _, _, hl1, hl4, hall⟩ := h
  rw [wrap_id (by omega) (by omega)]
  have h := iter_down (body := fun s : List Span × Int => calquelaw08_ConditionSpans_b3 N a r s.1 s.2) (fun (acc : List Span) k => (acc, k)) r.Spans (stepS a r.Spans.length) (fun acc => acc) (fun k acc => acc.length + k ≤ 8 ∧ (acc.length + k ≤ 4 ∨ k = 0)) (fun acc k x hk hI => ?_) (fun acc _ => ?_) r.Spans.length N [] (Nat.le_refl _) (by omega) ⟨by simp; omega, .inl (by simp; omega)⟩
  · rw [show ((([] : List Span), (r.Spans.length : Int) - 1) : List Span × Int) = (fun acc k => (acc, k)) [] ((r.Spans.length : Int) - 1) from rfl, h, dn_stepS _ _ _ _ _ (Nat.le_refl _), List.take_length]
    rfl
  · have hlt := getlt hk
    have hs := spn_iff.1 (List.all_eq_true.1 hall x (List.mem_of_getElem? hk))
    have hg := gr_le r.Operand
    constructor
    · show calquelaw08_ConditionSpans_b3 N a r acc k = _
      unfold calquelaw08_ConditionSpans_b3
      simp only [show decide ((k : Int) ≥ 0) = true from decide_eq_true (by omega), cond_true, idx_some hk, Option.bind_some]
      have hw : IntKind.wrap .i64 ((k : Int) - 1) = (k : Int) - 1 := wrap_id (by omega) (by omega)
      rw [hw]
      by_cases h0 : k = 0
      · subst h0
        simp only [show ((((0 : Nat) : Int) == 0) = true) from rfl, cond_true]
        by_cases h1 : x.From < x.To
        · simp only [decide_eq_true h1, cond_true]
          by_cases h2 : r.Spans.length < 4
          · have ht := tm ha (show 0 < x.To - x.From by omega)
            simp only [show decide ((r.Spans.length : Int) < 4) = true from decide_eq_true (by omega), cond_true, wrap_id (show -1000000 ≤ x.To - x.From by omega) (by omega)]
            unfold rm
            rw [if_neg (by omega)]
            simp only [Option.bind_some]
            rw [wrap_id (show -1000000 ≤ x.From + a.tmod (x.To - x.From) by omega) (by omega), wrap_id (show -1000000 ≤ x.From + a.tmod (x.To - x.From) + 1 by omega) (by omega), app_some (by simp; omega)]
            simp only [Option.bind_some]
            rw [app_some (by simp; omega)]
            simp only [Option.bind_some, stepS, h1, h2, and_self, if_true, cutS, List.append_assoc, List.cons_append, List.nil_append]
          · simp only [show decide ((r.Spans.length : Int) < 4) = false from decide_eq_false (by omega), cond_false, Option.bind_some]
            rw [app_some (by simp; omega)]
            simp only [Option.bind_some, stepS, h2, and_false, if_false]
        · simp only [decide_eq_false h1, cond_false]
          rw [app_some (by simp; omega)]
          simp only [Option.bind_some, stepS, h1, false_and, and_false, if_false]
      · simp only [show (((k : Int) == 0) = false) from beq_eq_false_iff_ne.2 (by omega), cond_false]
        rw [app_some (by simp; omega)]
        simp only [Option.bind_some, stepS, h0, false_and, if_false]
    · unfold stepS
      rw [List.length_append]
      split
      · rename_i h; simp [cutS]; omega
      · simp; omega
  · show calquelaw08_ConditionSpans_b3 N a r acc (-1) = _
    unfold calquelaw08_ConditionSpans_b3
    rfl

theorem ins_cut {a : Int} {s : Span} (ha : 0 ≤ a) (h : s.From < s.To) (n : Int) : ins (cutS a s) n = (decide (s.From ≤ n) && decide (n ≤ s.To)) := by
  have ht := tm ha (show 0 < s.To - s.From by omega)
  unfold ins cutS
  simp only [List.any_cons, List.any_nil, Bool.or_false]
  generalize a.tmod (s.To - s.From) = q at *
  rw [Bool.eq_iff_iff]
  simp only [Bool.or_eq_true, Bool.and_eq_true, decide_eq_true_eq]
  omega
theorem ins_sp {a : Int} (ha : 0 ≤ a) (xs : List Span) (n : Int) : ins (sp a xs) n = ins xs n := by
  cases xs with
  | nil => rfl
  | cons s t =>
    have e : ins (sp a (s :: t)) n = (ins t n || ins (if s.From < s.To ∧ (s :: t).length < 4 then cutS a s else [s]) n) := by
      unfold sp ins
      simp only [List.any_append, List.any_reverse]
    rw [e]
    have e2 : ins (s :: t) n = ((decide (s.From ≤ n) && decide (n ≤ s.To)) || ins t n) := rfl
    rw [e2, Bool.or_comm]
    congr 1
    split
    · rename_i h; exact ins_cut ha h.1 n
    · simp [ins]
def Rl (a : Int) (r : Relation) : Relation := Relation.mk r.Operand r.Mod r.Not (sp a r.Spans)
theorem hold_Rl {a : Int} (ha : 0 ≤ a) (s : List UInt8) (r : Relation) : hold s (Rl a r) = hold s r := by
  unfold hold Rl red
  simp only [ins_sp ha]
theorem prp_Rl {a : Int} (ha : 0 ≤ a) {r : Relation} (h : prp r = true) : prp (Rl a r) = true := by
  unfold prp at h ⊢
  simp only [Bool.and_eq_true, decide_eq_true_eq] at h
  obtain ⟨h1, h2, h3, hl1, hl4, hall⟩ := h
  have hlen : 1 ≤ (sp a r.Spans).length ∧ (sp a r.Spans).length ≤ 4 := by
    cases hx : r.Spans with
    | nil => rw [hx] at hl1; simp at hl1
    | cons s t =>
      rw [hx] at hl4
      simp only [List.length_cons] at hl4
      unfold sp
      rw [List.length_append, List.length_reverse]
      split
      · rename_i h; simp only [cutS, List.length_cons, List.length_nil] at h ⊢; omega
      · simp; omega
  have hsp : ∀ x ∈ sp a r.Spans, spn r.Operand x = true := by
    intro x hx
    cases hxs : r.Spans with
    | nil => rw [hxs] at hl1; simp at hl1
    | cons s t =>
      rw [hxs] at hx hall
      rw [List.all_cons, Bool.and_eq_true] at hall
      have hs := spn_iff.1 hall.1
      unfold sp at hx
      rw [List.mem_append] at hx
      rcases hx with hx | hx
      · exact List.all_eq_true.1 hall.2 x (List.mem_reverse.1 hx)
      · split at hx
        · rename_i h
          have ht := tm ha (show 0 < s.To - s.From by omega)
          unfold cutS at hx
          simp only [List.mem_cons, List.not_mem_nil, or_false] at hx
          rcases hx with rfl | rfl
          · exact spn_iff.2 ⟨by show 0 ≤ s.From + _ + 1; omega, by show s.From + _ + 1 ≤ s.To; omega, hs.2.2⟩
          · exact spn_iff.2 ⟨hs.1, by show s.From ≤ s.From + _; omega, by show s.From + _ ≤ _; omega⟩
        · simp only [List.mem_cons, List.not_mem_nil, or_false] at hx
          subst hx; exact hall.1
  simp only [Bool.and_eq_true, decide_eq_true_eq]
  exact ⟨h1, h2, h3, hlen.1, hlen.2, List.all_eq_true.2 hsp⟩
def back (a : Int) (c : Cnd) : Cnd := (c.map fun l => (l.map (Rl a)).reverse).reverse
theorem sum_rev : ∀ l : List Int, l.reverse.sum = l.sum
  | [] => rfl
  | x :: l => by rw [List.reverse_cons, List.sum_append, sum_rev l, List.sum_cons, List.sum_cons, List.sum_nil]; omega
theorem tot_back (a : Int) (c : Cnd) : tot (back a c) = tot c := by
  unfold tot back
  rw [List.map_reverse, sum_rev, List.map_map]
  congr 1
  apply List.map_congr_left
  intro l _
  simp
theorem vd_back {a : Int} (ha : 0 ≤ a) {c : Cnd} (h : vd c = true) : vd (back a c) = true := by
  have hp := vd_prp h
  unfold vd at h ⊢
  rw [tot_back]
  simp only [Bool.and_eq_true, decide_eq_true_eq] at h ⊢
  obtain ⟨h1, h2, h3⟩ := h
  refine ⟨by unfold back; simpa using h1, List.all_eq_true.2 fun l hl => ?_, h3⟩
  unfold back at hl
  rw [List.mem_reverse, List.mem_map] at hl
  obtain ⟨l0, hl0, rfl⟩ := hl
  have hf := List.all_eq_true.1 h2 l0 hl0
  unfold fine at hf ⊢
  rw [Bool.and_eq_true] at hf ⊢
  refine ⟨by simpa using hf.1, List.all_eq_true.2 fun r hr => ?_⟩
  rw [List.mem_reverse, List.mem_map] at hr
  obtain ⟨r0, hr0, rfl⟩ := hr
  exact prp_Rl ha (hp l0 hl0 r0 hr0)
theorem hd_back {a : Int} (ha : 0 ≤ a) (s : List UInt8) (c : Cnd) : hd s (back a c) = hd s c := by
  unfold hd back
  rw [List.any_reverse, List.any_map]
  congr 1
  funext l
  simp only [Function.comp, List.all_reverse, List.all_map]
  congr 1
  funext r
  exact hold_Rl ha s r

/-! ### Few bounds the lists -/
def CndOk (c : Cnd) : Prop := c.length ≤ reachBytes ∧ ∀ l ∈ c, l.length ≤ reachBytes
def wt (l : List Relation) : Nat := (l.map fun r => 1 + r.Spans.length).sum
theorem wt_ge : ∀ l : List Relation, l.length ≤ wt l
  | [] => Nat.le_refl _
  | r :: l => by have := wt_ge l; unfold wt at *; rw [List.map_cons, List.sum_cons, List.length_cons]; omega
theorem wt_le : ∀ l : List Relation, (∀ r ∈ l, r.Spans.length ≤ 4) → wt l ≤ 5 * l.length
  | [], _ => Nat.le_refl _
  | r :: l, h => by
    have := wt_le l fun x hx => h x (by simp [hx])
    have := h r (by simp)
    unfold wt at *; rw [List.map_cons, List.sum_cons, List.length_cons]; omega
theorem Few_lists {N : Nat} {c : Cnd} (S : Sz N c) (hc : CndOk c) (h4 : ∀ l ∈ c, ∀ r ∈ l, r.Spans.length ≤ 4) (h : calqueref08_Few N c = some true) : ∀ l ∈ c, l.length ≤ 80 := by
  have hin : ∀ (n : Nat) (k : Nat) l, n ≤ 80 → c[k]? = some l → iter (fun s => calqueref08_Few_b2 N c k s.1 s.2) N ((n : Int), 0) = some ((n + wt l : Nat) : Int) := by
    intro n k l hn hk
    have hl := List.mem_of_getElem? hk
    have hlen := hc.2 l hl
    unfold reachBytes at hlen
    have hrun : ∀ (xs : List Relation) (n : Nat), run (σ := Nat) (β := Int) (fun n (r : Relation) => .inl (n + (1 + r.Spans.length))) (fun n => (n : Int)) n xs = ((n + wt xs : Nat) : Int) := by
      intro xs
      induction xs with
      | nil => intro n; rfl
      | cons r xs ih => intro n; rw [run]; simp only; rw [ih]; unfold wt; rw [List.map_cons, List.sum_cons]; congr 1; omega
    have h := iter_list (body := fun s : Int × Int => calqueref08_Few_b2 N c k s.1 s.2) (σ := Nat) (fun n j => ((n : Int), j)) l (fun n (r : Relation) => .inl (n + (1 + r.Spans.length))) (fun n => (n : Int)) (fun j n => n ≤ 80 + 5 * j) (fun n j r hj hI => ?_) (fun n _ => ?_) N n (S.lens l hl) (by omega)
    · rw [h, hrun]
    · have hlt := getlt hj
      have hr4 := h4 l hl r (List.mem_of_getElem? hj)
      constructor
      · show calqueref08_Few_b2 N c k n j = _
        unfold calqueref08_Few_b2
        simp only [idx_some hk, Option.bind_some, dltx hj, cond_true, idx_some hj]
        rw [wrap_of (k := .i64) (x := (1 : Int) + (r.Spans.length : Int)) (inR_i64.2 ⟨by omega, by omega⟩), wrap_of (inR_i64.2 ⟨by omega, by omega⟩)]
        congr 3
      · rintro n' ⟨⟩
        omega
    · show calqueref08_Few_b2 N c k n l.length = _
      unfold calqueref08_Few_b2
      simp only [idx_some hk, Option.bind_some, dnlt, cond_false]
  have hrun : ∀ (xs : Cnd) (n : Nat), n ≤ 80 → run (σ := Nat) (β := Unit ⊕ Bool) (fun n (l : List Relation) => if n + wt l > 80 then .inr (.inr false) else .inl (n + wt l)) (fun _ => .inl ()) n xs = .inl () → ∀ l ∈ xs, l.length ≤ 80 := by
    intro xs
    induction xs with
    | nil => intro n _ _ l hl; cases hl
    | cons x xs ih =>
      intro n hn hr l hl
      rw [run] at hr
      by_cases hg : n + wt x > 80
      · simp [hg] at hr
      · simp only [hg, if_false] at hr
        rcases List.mem_cons.1 hl with rfl | hl
        · have := wt_ge l; omega
        · exact ih _ (by omega) hr l hl
  have hit := iter_list (body := fun s : Int × Int => calqueref08_Few_b1 N c s.1 s.2) (σ := Nat) (fun n k => ((n : Int), k)) c (fun n (l : List Relation) => if n + wt l > 80 then .inr (.inr false) else .inl (n + wt l)) (fun _ => .inl ()) (fun _ n => n ≤ 80) (fun n k l hk hI => ?_) (fun n _ => ?_) N 0 S.len (by omega)
  · unfold calqueref08_Few at h
    rw [show ((0 : Int), (0 : Int)) = (fun (n : Nat) (k : Int) => ((n : Int), k)) 0 (0 : Int) from rfl, hit] at h
    cases hr : run (σ := Nat) (β := Unit ⊕ Bool) (fun n (l : List Relation) => if n + wt l > 80 then .inr (.inr false) else .inl (n + wt l)) (fun _ => .inl ()) 0 c with
    | inl u => exact hrun c 0 (by omega) (by rw [hr])
    | inr b =>
      have key : ∀ (xs : Cnd) (n : Nat), run (σ := Nat) (β := Unit ⊕ Bool) (fun n (l : List Relation) => if n + wt l > 80 then .inr (.inr false) else .inl (n + wt l)) (fun _ => .inl ()) n xs = .inr b → b = false := by
        intro xs
        induction xs with
        | nil => intro n h; cases h
        | cons x xs ih =>
          intro n h
          rw [run] at h
          by_cases hg : n + wt x > 80
          · simp [hg] at h; exact h
          · simp only [hg, if_false] at h; exact ih _ h
      have := key c 0 hr
      subst this
      rw [hr] at h
      simp at h
  · have hl := List.mem_of_getElem? hk
    constructor
    · show calqueref08_Few_b1 N c n k = _
      unfold calqueref08_Few_b1
      simp only [dltx hk, cond_true, hin n k l hI hk, Option.bind_some]
      by_cases hg : n + wt l > 80
      · simp only [hg, if_true, show decide (((n + wt l : Nat) : Int) > 80) = true from decide_eq_true (by omega), cond_true]
      · simp only [hg, if_false, show decide (((n + wt l : Nat) : Int) > 80) = false from decide_eq_false (by omega), cond_false]
    · intro n' h
      split at h
      · cases h
      · cases h; omega
  · show calqueref08_Few_b1 N c n c.length = _
    unfold calqueref08_Few_b1
    simp only [dnlt, cond_false]

theorem conditionSpans_law (c : Cnd) (s : List UInt8) (a : Int) (hc : CndOk c) (hs : s.length ≤ LIMS) (ha : 0 ≤ a) : ∃ N, calquelaw08_ConditionSpans N c s a = some true := by
  refine ⟨2 * sz c + sz (back a c) + s.length + 6000, ?_⟩
  generalize hNN : 2 * sz c + sz (back a c) + s.length + 6000 = N
  have Sc : Sz N c := Sz.of (by omega)
  have Sb : Sz N (back a c) := Sz.of (by omega)
  have aw : calquelaw08_awake N = some true := by rw [show N = (N - 3000) + 3000 by omega]; exact awake_eq _
  unfold calquelaw08_ConditionSpans
  rw [aw]
  simp only [Option.bind_some, Bool.not_true, cond_false]
  obtain ⟨b, hb⟩ := Few_some Sc
  rw [hb]
  simp only [Option.bind_some]
  cases b with
  | false => rfl
  | true =>
  simp only [Bool.not_true, cond_false, ref_Valid_c Sc, Option.bind_some, ref_Valid_big hs (show s.length + 1000 ≤ N by omega)]
  cases hvc : vd c with
  | false => rfl
  | true =>
  cases hvs : vld s with
  | false => rfl
  | true =>
  have hl := vld_len hvs
  have hp := vd_prp hvc
  have h4 : ∀ l ∈ c, ∀ r ∈ l, r.Spans.length ≤ 4 := by
    intro l hl r hr
    have := hp l hl r hr
    unfold prp at this
    simp only [Bool.and_eq_true, decide_eq_true_eq] at this
    exact this.2.2.2.2.1
  have h30 := Few_len Sc hb
  have h80 := Few_lists Sc hc h4 hb
  have h2 : ∀ (k : Nat) l, c[k]? = some l → iter (fun t => calquelaw08_ConditionSpans_b2 N c a k t.1 t.2) N (([] : List Relation), IntKind.wrap .i64 ((l.length : Int) - 1)) = some ((l.map (Rl a)).reverse) := by
    intro k l hk
    have hlm := List.mem_of_getElem? hk
    have hl80 := h80 l hlm
    rw [wrap_id (by omega) (by omega)]
    have h := iter_down (body := fun t : List Relation × Int => calquelaw08_ConditionSpans_b2 N c a k t.1 t.2) (fun (acc : List Relation) j => (acc, j)) l (fun acc _ r => acc ++ [Rl a r]) (fun acc => acc) (fun j acc => acc.length + j ≤ 80) (fun acc j r hj hI => ?_) (fun acc _ => ?_) l.length N [] (Nat.le_refl _) (Sc.lens l hlm) (by simp; omega)
    · rw [show ((([] : List Relation), (l.length : Int) - 1) : List Relation × Int) = (fun acc j => (acc, j)) [] ((l.length : Int) - 1) from rfl, h, dn_map _ _ _ _ (Nat.le_refl _), List.take_length]
      rfl
    · have hlt := getlt hj
      constructor
      · show calquelaw08_ConditionSpans_b2 N c a k acc j = _
        unfold calquelaw08_ConditionSpans_b2
        simp only [show decide ((j : Int) ≥ 0) = true from decide_eq_true (by omega), cond_true, idx_some hk, idx_some hj, Option.bind_some, spans_loop (hp l hlm r (List.mem_of_getElem? hj)) ha Sc.n]
        rw [app_some (by simp; omega), wrap_id (by omega) (by omega)]
        rfl
      · simp; omega
    · rfl
  have h1 : iter (fun t => calquelaw08_ConditionSpans_b1 N c a t.1 t.2) N (([] : Cnd), IntKind.wrap .i64 ((c.length : Int) - 1)) = some (back a c) := by
    rw [wrap_id (by omega) (by omega)]
    have h := iter_down (body := fun t : Cnd × Int => calquelaw08_ConditionSpans_b1 N c a t.1 t.2) (fun (acc : Cnd) j => (acc, j)) c (fun acc _ l => acc ++ [(l.map (Rl a)).reverse]) (fun acc => acc) (fun j acc => acc.length + j ≤ 80) (fun acc j l hj hI => ?_) (fun acc _ => ?_) c.length N [] (Nat.le_refl _) Sc.len (by simp; omega)
    · rw [show ((([] : Cnd), (c.length : Int) - 1) : Cnd × Int) = (fun acc j => (acc, j)) [] ((c.length : Int) - 1) from rfl, h, dn_map (fun l : List Relation => (l.map (Rl a)).reverse) _ _ _ (Nat.le_refl _), List.take_length]
      rfl
    · have hlt := getlt hj
      constructor
      · show calquelaw08_ConditionSpans_b1 N c a acc j = _
        unfold calquelaw08_ConditionSpans_b1
        simp only [show decide ((j : Int) ≥ 0) = true from decide_eq_true (by omega), cond_true, idx_some hj, Option.bind_some, h2 j l hj]
        rw [app_some (by simp; omega), wrap_id (by omega) (by omega)]
        rfl
      · simp; omega
    · rfl
  simp only [Bool.not_true, cond_false, h1, Option.bind_some, Holds_eq Sc (show s.length ≤ 1000 by omega), Holds_eq Sb (show s.length ≤ 1000 by omega), hr, hvc, vd_back ha hvc, hvs, Bool.and_self, if_true, hd_back ha]
  simp
end Go.Proofs.YtbaiahglondepaaGreatDoor
