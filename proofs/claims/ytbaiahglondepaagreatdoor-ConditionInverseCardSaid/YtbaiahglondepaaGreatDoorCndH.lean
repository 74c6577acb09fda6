/- The parser: what it accepts is valid. -/
import Derived.Test.YtbaiahglondepaaGreatDoorCndG
set_option linter.unusedVariables false
namespace Go.Proofs.YtbaiahglondepaaGreatDoor
open Go.X

theorem rel1_eq {N : Nat} (hN : 3000 ≤ N) (v o : Int) : condition_parser_relation_1 N v o = some (if per o v then 0 else 2) := by
  unfold condition_parser_relation_1
  rw [permitted_eq hN]
  cases per o v <;> rfl
theorem span1_eq (N : Nat) (v o c : Int) : condition_parser_span_1 N v o c = some (if v > gr o then 2 else if c ≥ 4 then 6 else 0) := by
  unfold condition_parser_span_1
  rw [greatest_eq]
  simp only [Option.bind_some]
  by_cases h : v > gr o
  · rw [decide_eq_true h, cond_true, if_pos h]
  · rw [decide_eq_false h, cond_false, if_neg h]
    by_cases h2 : c ≥ 4
    · rw [decide_eq_true h2, cond_true, if_pos h2]
    · rw [decide_eq_false h2, cond_false, if_neg h2]
theorem span2_eq (N : Nat) (v o : Int) (x : Span) : condition_parser_span_2 N v o x = some (if v > gr o then 2 else if v < x.From then 2 else 0) := by
  unfold condition_parser_span_2
  rw [greatest_eq]
  simp only [Option.bind_some]
  by_cases h : v > gr o
  · rw [decide_eq_true h, cond_true, if_pos h]
  · rw [decide_eq_false h, cond_false, if_neg h]
    by_cases h2 : v < x.From
    · rw [decide_eq_true h2, cond_true, if_pos h2]
    · rw [decide_eq_false h2, cond_false, if_neg h2]
theorem span_any {N : Nat} {s : List UInt8} (X : Cx N s) {k : Nat} {n e : Int} (hk : k ≤ s.length) (o c : Int) :
    ∃ x k' e', condition_parser_span N o c (St s k n e) = some (x, St s k' n e') ∧ k' ≤ s.length ∧ (e' = 0 → e = 0 ∧ spn o x = true ∧ c < 4) := by
  unfold condition_parser_span
  rw [num95]
  obtain ⟨v, k1, e1, a1, b1, c1⟩ := num_any X (ck := fun n => condition_parser_span_1 N n o c) (fun v => ⟨_, span1_eq N v o c⟩) (n := n) (e := e) hk
  rw [a1]
  simp only [Option.bind_some]
  obtain ⟨b, k2, a2, b2⟩ := next_any X (n := n) (e := e1) b1 [46, 46]
  rw [a2]
  simp only [Option.bind_some]
  have hc1 : e1 = 0 → e = 0 ∧ v ≤ gr o ∧ c < 4 ∧ 0 ≤ v := by
    intro h
    obtain ⟨h1, h2, h3⟩ := c1 h
    rw [span1_eq] at h2
    refine ⟨h1, ?_, ?_, h3⟩
    · by_cases h : v > gr o
      · rw [if_pos h] at h2; cases h2
      · omega
    · by_cases h : v > gr o
      · rw [if_pos h] at h2; cases h2
      · rw [if_neg h] at h2
        by_cases h' : c ≥ 4
        · rw [if_pos h'] at h2; cases h2
        · omega
  cases b with
  | false =>
    refine ⟨_, k2, e1, rfl, b2, fun h => ?_⟩
    obtain ⟨h1, h2, h3, h4⟩ := hc1 h
    exact ⟨h1, by rw [spn_iff]; exact ⟨h4, Int.le_refl _, h2⟩, h3⟩
  | true =>
    simp only [cond_true]
    rw [num96]
    obtain ⟨w, k3, e3, a3, b3, c3⟩ := num_any X (ck := fun n => condition_parser_span_2 N n o (Span.mk v v)) (fun u => ⟨_, span2_eq N u o _⟩) (n := n) (e := e1) b2
    rw [a3]
    refine ⟨_, k3, e3, rfl, b3, fun h => ?_⟩
    obtain ⟨h1, h2, h3⟩ := c3 h
    obtain ⟨g1, g2, g3, g4⟩ := hc1 h1
    rw [span2_eq] at h2
    refine ⟨g1, ?_, g3⟩
    rw [spn_iff]
    by_cases hh : w > gr o
    · rw [if_pos hh] at h2; cases h2
    · rw [if_neg hh] at h2
      by_cases h' : w < v
      · rw [if_pos h'] at h2; cases h2
      · exact ⟨g4, by show v ≤ w; omega, by show w ≤ gr o; omega⟩

/-! ### relations -/
def lim (N : Nat) (x : Parser) : Option Parser :=
  bif (decide ((IntKind.wrap .i64 (x.relations + 1)) > 6)) then
    (condition_parser_fail N 6 (Parser.mk x.s x.at_ (IntKind.wrap .i64 (x.relations + 1)) x.e)).bind fun r34 => some r34
  else some (Parser.mk x.s x.at_ (IntKind.wrap .i64 (x.relations + 1)) x.e)
def tail (N : Nat) (o : Int) (t : List UInt8) (q : Parser) : Option (Relation × Parser) :=
  (condition_parser_take N ([t] : List (List UInt8)) q).bind fun r50 =>
  (condition_parser_next N ([37]) r50.2).bind fun r57 =>
  (show Option (Parser × Relation) from
    bif r57.1 then
      (condition_parser_number__69 N r57.2 o).bind fun r71 =>
      some (r71.2, (Relation.mk o r71.1 false ([])))
    else
      some (r57.2, (Relation.mk o 0 false ([])))).bind fun o63 =>
  (condition_parser_take N ([[61], [33, 61]] : List (List UInt8)) o63.1).bind fun r89 =>
  (iter (fun s => condition_parser_relation_b1 N o s.1 s.2.1 s.2.2) N (true, r89.2, (Relation.mk o63.2.Operand o63.2.Mod (r89.1 == ([33, 61])) ([])))).bind fun o107 =>
  some (o107.1, o107.2)
theorem b2_swap (N : Nat) (o : Int) (s : Bool × Parser × Relation) : condition_parser_relation_b2 N o s.1 s.2.1 s.2.2 = (condition_parser_relation_b1 N o s.1 s.2.1 s.2.2).map (Sum.map id Prod.swap) := by
  obtain ⟨m, p, r⟩ := s
  unfold condition_parser_relation_b1 condition_parser_relation_b2
  cases m with
  | false => rfl
  | true =>
    simp only [cond_true]
    cases (p.e == 0) with
    | false => rfl
    | true =>
      simp only [cond_true]
      cases condition_parser_span N o (r.Spans.length : Int) p with
      | none => rfl
      | some q =>
        simp only [Option.bind_some]
        cases app r.Spans [q.1] with
        | none => rfl
        | some l =>
          simp only [Option.bind_some]
          cases condition_parser_next N [44] q.2 with
          | none => rfl
          | some z => rfl
theorem relation_eq (N : Nat) (p : Parser) : condition_parser_relation N p = (condition_parser_peek N p).bind fun r10 => (strings_Index N ([32, 110, 105, 118, 119, 102, 116]) r10.1).bind fun r17 =>
    bif ((r10.1.length : Int) != 1) then (condition_parser_fail N 3 r10.2).bind fun r22 => (lim N r22).bind fun o28 => tail N r17 r10.1 o28
    else (show Option Parser from bif (decide (r17 < 1)) then (condition_parser_fail N 3 r10.2).bind fun r222 => some r222 else some r10.2).bind fun o216 => (lim N o216).bind fun o232 => tail N r17 r10.1 o232 := by
  unfold condition_parser_relation tail lim
  congr 1; funext r10
  congr 1; funext r17
  cases ((r10.1.length : Int) != 1) with
  | true => rfl
  | false =>
    simp only [cond_false]
    congr 1; funext o216
    congr 1; funext o232
    congr 1; funext r254
    congr 1; funext r261
    congr 1; funext o267
    congr 1; funext r293
    rw [iter_swap (b1 := fun s => condition_parser_relation_b1 N r17 s.1 s.2.1 s.2.2) (b2 := fun s => condition_parser_relation_b2 N r17 s.1 s.2.1 s.2.2) Prod.swap (b2_swap N r17)]
    cases iter (fun s => condition_parser_relation_b1 N r17 s.1 s.2.1 s.2.2) N (true, r293.2, (Relation.mk o267.2.Operand o267.2.Mod (r293.1 == ([33, 61])) ([]))) with
    | none => rfl
    | some z => rfl
theorem lim_eq {N : Nat} {s : List UInt8} {k : Nat} {n e : Int} (h0 : 0 ≤ n) (h9 : n ≤ 100) : lim N (St s k n e) = some (St s k (n + 1) (if n + 1 > 6 then (if e = 0 then 6 else e) else e)) := by
  unfold lim
  show (bif (decide ((IntKind.wrap .i64 (n + 1)) > 6)) then (condition_parser_fail N 6 (St s k (IntKind.wrap .i64 (n + 1)) e)).bind fun r34 => some r34 else some (St s k (IntKind.wrap .i64 (n + 1)) e)) = _
  rw [wrap_id (by omega) (by omega)]
  by_cases h : n + 1 > 6
  · rw [decide_eq_true h, cond_true, fail_eq, if_pos h]; rfl
  · rw [decide_eq_false h, cond_false, if_neg h]
theorem spans_any {N : Nat} {s : List UInt8} (X : Cx N s) {o m : Int} {nt : Bool} {k : Nat} {n e : Int} (hk : k ≤ s.length) :
    ∃ b, iter (fun s => condition_parser_relation_b1 N o s.1 s.2.1 s.2.2) N (true, St s k n e, Relation.mk o m nt []) = some b ∧
      ∃ k' e' l, b = (Relation.mk o m nt l, St s k' n e') ∧ k' ≤ s.length ∧ (e' = 0 → e = 0 ∧ 1 ≤ l.length ∧ l.length ≤ 4 ∧ l.all (spn o) = true) := by
  refine iter_inv (fun t => ∃ k' e' l, t.2.1 = St s k' n e' ∧ t.2.2 = Relation.mk o m nt l ∧ k' ≤ s.length ∧ l.length ≤ 5 ∧ (t.1 = false → l ≠ []) ∧ (e' = 0 → e = 0 ∧ l.length ≤ 4 ∧ l.all (spn o) = true))
    _ (fun t => 6 - t.2.2.Spans.length) (fun t hI => ?_) N _ ⟨k, e, [], rfl, rfl, hk, by simp, (fun h => by cases h), fun h => ⟨h, by simp, rfl⟩⟩ (by have := X.hN; show 6 < N; omega)
  obtain ⟨mo, p, r⟩ := t
  obtain ⟨k1, e1, l, rfl, rfl, hk1, hl, hne, hv⟩ := hI
  cases mo with
  | false =>
    right
    refine ⟨_, rfl, k1, e1, l, rfl, hk1, fun h => ?_⟩
    obtain ⟨a, b, c⟩ := hv h
    refine ⟨a, ?_, b, c⟩
    have := hne rfl
    cases l with
    | nil => exact absurd rfl this
    | cons _ _ => simp
  | true =>
    unfold condition_parser_relation_b1
    simp only [cond_true]
    by_cases he : e1 = 0
    · subst he
      left
      obtain ⟨h0, h4, hall⟩ := hv rfl
      obtain ⟨x, k2, e2, a2, b2, c2⟩ := span_any X (n := n) (e := 0) hk1 o (l.length : Int)
      obtain ⟨b, k3, a3, b3⟩ := next_any X (n := n) (e := e2) b2 [44]
      show ∃ s', (bif ((0 : Int) == 0) then _ else _) = _ ∧ _
      rw [show ((0 : Int) == 0) = true from rfl, cond_true]
      simp only [a2, Option.bind_some]
      rw [app_some (by simp only [List.length_cons, List.length_nil]; omega)]
      simp only [Option.bind_some, a3]
      refine ⟨_, rfl, ⟨k3, e2, l ++ [x], rfl, rfl, b3, by simp only [List.length_append, List.length_cons, List.length_nil]; omega, fun _ => by simp, fun h => ?_⟩, ?_⟩
      · obtain ⟨_, q2, q3⟩ := c2 h
        refine ⟨h0, by simp only [List.length_append, List.length_cons, List.length_nil]; omega, ?_⟩
        rw [List.all_append, hall]; simp [q2]
      · simp only [List.length_append, List.length_cons, List.length_nil]; omega
    · right
      show ∃ b, (bif (e1 == 0) then _ else _) = _ ∧ _
      rw [show (e1 == 0) = false by simp [he], cond_false]
      exact ⟨_, rfl, k1, e1, l, rfl, hk1, fun h => absurd h he⟩
theorem tail_any {N : Nat} {s : List UInt8} (X : Cx N s) {o : Int} {t : List UInt8} {k : Nat} {n e : Int} (hk : k ≤ s.length) :
    ∃ r k' e', tail N o t (St s k n e) = some (r, St s k' n e') ∧ k' ≤ s.length ∧ (e' = 0 → e = 0 ∧ (1 ≤ o → o ≤ 6 → prp r = true)) := by
  have hN := X.hN
  unfold tail
  obtain ⟨t1, k1, e1, a1, b1, c1⟩ := take_any X (n := n) (e := e) hk (l := [t]) (by simp)
  obtain ⟨b, k2, a2, b2⟩ := next_any X (n := n) (e := e1) b1 [37]
  simp only [a1, Option.bind_some, a2]
  have hmod : ∃ m k3 e3, (bif b then (condition_parser_number__69 N (St s k2 n e1) o).bind fun r71 => some (r71.2, (Relation.mk o r71.1 false ([]))) else some (St s k2 n e1, (Relation.mk o 0 false ([])))) = some (St s k3 n e3, Relation.mk o m false []) ∧ k3 ≤ s.length ∧ (e3 = 0 → e1 = 0 ∧ (m = 0 ∨ per o m = true)) := by
    cases b with
    | false => exact ⟨0, k2, e1, rfl, b2, fun h => ⟨h, .inl rfl⟩⟩
    | true =>
      obtain ⟨v, k3, e3, a3, b3, c3⟩ := num_any X (ck := fun n => condition_parser_relation_1 N n o) (fun v => ⟨_, rel1_eq (by omega) v o⟩) (n := n) (e := e1) b2
      refine ⟨v, k3, e3, ?_, b3, fun h => ?_⟩
      · rw [cond_true, num69, a3]; rfl
      · obtain ⟨h1, h2, _⟩ := c3 h
        rw [rel1_eq (by omega)] at h2
        refine ⟨h1, .inr ?_⟩
        cases hp : per o v with
        | true => rfl
        | false => rw [hp] at h2; simp at h2
  obtain ⟨m, k3, e3, a3, b3, c3⟩ := hmod
  rw [a3]
  obtain ⟨t4, k4, e4, a4, b4, c4⟩ := take_any X (n := n) (e := e3) b3 (l := [[61], [33, 61]]) (by simp)
  simp only [Option.bind_some, a4]
  obtain ⟨z, a5, k5, e5, l, rfl, b5, c5⟩ := spans_any X (o := o) (m := m) (nt := t4 == [33, 61]) (n := n) (e := e4) b4
  rw [a5]
  refine ⟨_, k5, e5, rfl, b5, fun h => ?_⟩
  obtain ⟨g1, g2, g3, g4⟩ := c5 h
  obtain ⟨f1, f2⟩ := c3 (c4 g1)
  refine ⟨c1 f1, fun h1 h6 => ?_⟩
  unfold prp
  simp only [decide_eq_true h1, decide_eq_true h6, decide_eq_true g2, decide_eq_true g3, g4, Bool.true_and, Bool.and_true]
  rcases f2 with f | f
  · simp [f]
  · simp [f]
theorem index_le6 (b : UInt8) : Lib.index [32, 110, 105, 118, 119, 102, 116] [b] ≤ 6 := by
  have key : ∀ l : List UInt8, Lib.index l [b] ≤ (l.length : Int) - 1 := by
    intro l
    induction l with
    | nil => unfold Lib.index; simp
    | cons c l ih =>
      unfold Lib.index
      split
      · simp only [List.length_cons]; omega
      · split
        · simp only [List.length_cons]; omega
        · simp only [List.length_cons]; omega
  exact key [32, 110, 105, 118, 119, 102, 116]
theorem relation_any {N : Nat} {s : List UInt8} (X : Cx N s) {k : Nat} {n e : Int} (hk : k ≤ s.length) (h0 : 0 ≤ n) (h9 : n ≤ 100) :
    ∃ r k' e', condition_parser_relation N (St s k n e) = some (r, St s k' (n + 1) e') ∧ k' ≤ s.length ∧ (e' = 0 → e = 0 ∧ n + 1 ≤ 6 ∧ prp r = true) := by
  rw [relation_eq]
  obtain ⟨k1, a1, b1, c1⟩ := peek_J X (n := n) (e := e) (J.any hk)
  rw [a1]
  simp only [Option.bind_some]
  unfold strings_Index
  rw [if_pos (by simp)]
  simp only [Option.bind_some]
  by_cases hl : (tok (wsp (s.drop k))).length = 1
  · rw [show (((tok (wsp (s.drop k))).length : Int) != 1) = false by simp [hl], cond_false]
    obtain ⟨b, hb⟩ := List.length_eq_one_iff.1 hl
    rw [hb]
    have h6 := index_le6 b
    generalize Lib.index [32, 110, 105, 118, 119, 102, 116] [b] = o at *
    by_cases h1 : o < 1
    · rw [decide_eq_true h1, cond_true, fail_eq]
      simp only [Option.bind_some]
      rw [lim_eq h0 h9]
      simp only [Option.bind_some]
      obtain ⟨r, k', e', a2, b2, c2⟩ := tail_any X (o := o) (t := [b]) (n := n + 1) (e := if n + 1 > 6 then (if (if e = 0 then 3 else e) = 0 then 6 else (if e = 0 then 3 else e)) else (if e = 0 then 3 else e)) b1
      refine ⟨r, k', e', a2, b2, fun h => ?_⟩
      have := (c2 h).1
      exfalso; revert this
      split <;> split <;> simp_all
    · rw [decide_eq_false h1, cond_false]
      simp only [Option.bind_some]
      rw [lim_eq h0 h9]
      simp only [Option.bind_some]
      obtain ⟨r, k', e', a2, b2, c2⟩ := tail_any X (o := o) (t := [b]) (n := n + 1) (e := if n + 1 > 6 then (if e = 0 then 6 else e) else e) b1
      refine ⟨r, k', e', a2, b2, fun h => ?_⟩
      obtain ⟨q1, q2⟩ := c2 h
      by_cases hn : n + 1 > 6
      · rw [if_pos hn] at q1; exfalso; revert q1; split <;> simp_all
      · rw [if_neg hn] at q1; exact ⟨q1, by omega, q2 (by omega) h6⟩
  · rw [show (((tok (wsp (s.drop k))).length : Int) != 1) = true by simp; omega, cond_true, fail_eq]
    simp only [Option.bind_some]
    rw [lim_eq h0 h9]
    simp only [Option.bind_some]
    obtain ⟨r, k', e', a2, b2, c2⟩ := tail_any X (o := Lib.index [32, 110, 105, 118, 119, 102, 116] (tok (wsp (s.drop k)))) (t := tok (wsp (s.drop k))) (n := n + 1) (e := if n + 1 > 6 then (if (if e = 0 then 3 else e) = 0 then 6 else (if e = 0 then 3 else e)) else (if e = 0 then 3 else e)) b1
    refine ⟨r, k', e', a2, b2, fun h => ?_⟩
    have := (c2 h).1
    exfalso; revert this
    split <;> split <;> simp_all

/-! ### the whole -/
theorem list_any {N : Nat} {s : List UInt8} (X : Cx N s) {k : Nat} {n e : Int} (hk : k ≤ s.length) (h0 : 0 ≤ n) (h9 : n ≤ 6) :
    ∃ b, iter (fun s => condition_Parse_b2 N s.1 s.2.1 s.2.2) N ([], true, St s k n e) = some b ∧
      ∃ k' e' l, b = (St s k' (n + (l.length : Nat)) e', l) ∧ k' ≤ s.length ∧ n + (l.length : Nat) ≤ 7 ∧ (e = 0 → 1 ≤ l.length) ∧ (e' = 0 → e = 0 ∧ n + (l.length : Nat) ≤ 6 ∧ l.all prp = true) := by
  refine iter_inv (fun t => ∃ k' e', t.2.2 = St s k' (n + (t.1.length : Nat)) e' ∧ k' ≤ s.length ∧ n + (t.1.length : Nat) ≤ 7 ∧ (e = 0 → e' ≠ 0 → 1 ≤ t.1.length) ∧ (t.2.1 = false → 1 ≤ t.1.length) ∧ (e' = 0 → e = 0 ∧ n + (t.1.length : Nat) ≤ 6 ∧ t.1.all prp = true))
    _ (fun t => 8 - (n + (t.1.length : Nat)).toNat) (fun t hI => ?_) N _ ⟨k, e, by simp, hk, by simp; omega, (fun h1 h2 => absurd h1 h2), (fun h => by cases h), fun h => ⟨h, by simp; omega, rfl⟩⟩ (by have := X.hN; show 8 - (n + ((0 : Nat) : Int)).toNat < N; omega)
  obtain ⟨l, an, p⟩ := t
  simp only at hI
  obtain ⟨k1, e1, rfl, hk1, hl, hne, hna, hv⟩ := hI
  unfold condition_Parse_b2
  simp only
  cases an with
  | false =>
    right
    exact ⟨_, rfl, k1, e1, l, rfl, hk1, hl, fun _ => hna rfl, hv⟩
  | true =>
    simp only [cond_true]
    by_cases he : e1 = 0
    · subst he
      left
      obtain ⟨hz, h6, hall⟩ := hv rfl
      obtain ⟨r, k2, e2, a2, b2, c2⟩ := relation_any X (n := n + (l.length : Nat)) (e := 0) hk1 (by omega) (by omega)
      obtain ⟨b, k3, a3, b3⟩ := next_any X (n := n + (l.length : Nat) + 1) (e := e2) b2 [97, 110, 100]
      show ∃ s', (bif ((0 : Int) == 0) then _ else _) = _ ∧ _
      rw [show ((0 : Int) == 0) = true from rfl, cond_true]
      simp only [a2, Option.bind_some]
      rw [app_some (by simp only [List.length_cons, List.length_nil]; omega)]
      simp only [Option.bind_some, a3]
      have e5 : n + (l.length : Nat) + 1 = n + ((l ++ [r]).length : Nat) := by simp only [List.length_append, List.length_cons, List.length_nil]; omega
      refine ⟨_, rfl, ⟨k3, e2, by rw [← e5], b3, by rw [← e5]; omega, fun _ _ => by simp, fun _ => by simp, fun h => ?_⟩, ?_⟩
      · obtain ⟨_, q2, q3⟩ := c2 h
        refine ⟨hz, by rw [← e5]; omega, ?_⟩
        simp only
        rw [List.all_append, hall]; simp [q3]
      · simp only
        rw [← e5]; omega
    · right
      show ∃ b, (bif (e1 == 0) then _ else _) = _ ∧ _
      rw [show (e1 == 0) = false by simp [he], cond_false]
      exact ⟨_, rfl, k1, e1, l, rfl, hk1, hl, fun h => hne h he, fun h => absurd h he⟩
theorem tot_snoc (c : Cnd) (l : List Relation) : tot (c ++ [l]) = tot c + l.length := by unfold tot; simp
theorem conds_any {N : Nat} {s : List UInt8} (X : Cx N s) :
    ∃ b, iter (fun s => condition_Parse_b1 N s.1 s.2.1 s.2.2) N ([], true, St s 0 0 0) = some b ∧
      ∃ k' n' e' c, b = (St s k' n' e', c) ∧ k' ≤ s.length ∧ (e' = 0 → vd c = true ∧ tot c ≤ 6) := by
  refine iter_inv (fun t => ∃ k' n' e', t.2.2 = St s k' n' e' ∧ k' ≤ s.length ∧ 0 ≤ n' ∧ n' ≤ 7 ∧ (t.1.length : Int) ≤ n' ∧ (t.2.1 = false → t.1 ≠ []) ∧ (e' = 0 → n' ≤ 6 ∧ n' = tot t.1 ∧ t.1.all fine = true))
    _ (fun t => 8 - t.2.2.relations.toNat) (fun t hI => ?_) N _ ⟨0, 0, 0, rfl, Nat.zero_le _, by omega, by omega, by simp, (fun h => by cases h), fun _ => ⟨by omega, rfl, rfl⟩⟩ (by have := X.hN; show 8 - (0 : Int).toNat < N; omega)
  obtain ⟨c, mo, p⟩ := t
  simp only at hI
  obtain ⟨k1, n1, e1, rfl, hk1, hn0, hn7, hcl, hmo, hv⟩ := hI
  unfold condition_Parse_b1
  simp only
  cases mo with
  | false =>
    right
    refine ⟨_, rfl, k1, n1, e1, c, rfl, hk1, fun h => ?_⟩
    obtain ⟨q1, q2, q3⟩ := hv h
    have := hmo rfl
    refine ⟨?_, by omega⟩
    unfold vd
    rw [q3, wrap_id (by omega) (by omega)]
    have : 0 < c.length := by cases c with | nil => exact absurd rfl this | cons _ _ => simp
    simp [this, ← q2, q1]
  | true =>
    simp only [cond_true]
    by_cases he : e1 = 0
    · subst he
      left
      obtain ⟨h6, htot, hall⟩ := hv rfl
      obtain ⟨b, a2, k2, e2, l, rfl, b2, hl7, hl1, c2⟩ := list_any X (n := n1) (e := 0) hk1 hn0 h6
      obtain ⟨b, k3, a3, b3⟩ := next_any X (n := n1 + (l.length : Nat)) (e := e2) b2 [111, 114]
      have hl1 := hl1 rfl
      show ∃ s', (bif ((0 : Int) == 0) then _ else _) = _ ∧ _
      rw [show ((0 : Int) == 0) = true from rfl, cond_true, a2]
      simp only [Option.bind_some]
      rw [app_some (by simp only [List.length_cons, List.length_nil]; omega)]
      simp only [Option.bind_some, a3]
      refine ⟨_, rfl, ⟨k3, n1 + (l.length : Nat), e2, rfl, b3, by omega, hl7, by simp only [List.length_append, List.length_cons, List.length_nil]; omega, fun _ => by simp, fun h => ?_⟩, ?_⟩
      · obtain ⟨_, q2, q3⟩ := c2 h
        refine ⟨q2, ?_, ?_⟩
        · rw [tot_snoc, ← htot]
        · rw [List.all_append, hall]
          have : l ≠ [] := by rintro rfl; simp at hl1
          simp [fine, q3, this]
      · simp only
        omega
    · right
      show ∃ b, (bif (e1 == 0) then _ else _) = _ ∧ _
      rw [show (e1 == 0) = false by simp [he], cond_false]
      exact ⟨_, rfl, k1, n1, e1, c, rfl, hk1, fun h => absurd h he⟩
theorem Parse_any {N : Nat} {s : List UInt8} (X : Cx N s) : ∃ c i e, condition_Parse N s = some (c, i, e) ∧ (e ≠ 0 → c = []) ∧ (e = 0 → vd c = true ∧ tot c ≤ 6) := by
  unfold condition_Parse
  obtain ⟨b, a1, k1, n1, e1, c, rfl, b1, c1⟩ := conds_any X
  rw [show (Parser.mk s 0 0 0) = St s 0 0 0 from rfl, a1]
  simp only [Option.bind_some]
  obtain ⟨k2, a2, b2, c2⟩ := skip_J X (n := n1) (e := e1) (J.any b1)
  rw [a2]
  simp only [Option.bind_some]
  have hf : ∃ e2, (bif (decide ((k2 : Int) < (s.length : Int))) then (condition_parser_fail N 3 (St s k2 n1 e1)).bind fun r143 => some r143 else some (St s k2 n1 e1)) = some (St s k2 n1 e2) ∧ (e2 = 0 → e1 = 0) := by
    by_cases h : (k2 : Int) < (s.length : Int)
    · rw [decide_eq_true h, cond_true, fail_eq]
      refine ⟨_, rfl, fun h => ?_⟩
      by_cases h' : e1 = 0
      · exact h'
      · rw [if_neg h'] at h; exact h
    · rw [decide_eq_false h, cond_false]
      exact ⟨_, rfl, fun h => h⟩
  obtain ⟨e2, a3, c3⟩ := hf
  show ∃ c' i e, (Option.bind (bif (decide ((k2 : Int) < (s.length : Int))) then (condition_parser_fail N 3 (St s k2 n1 e1)).bind fun r143 => some r143 else some (St s k2 n1 e1)) _) = _ ∧ _
  rw [a3]
  simp only [Option.bind_some]
  by_cases h : e2 = 0
  · subst h
    refine ⟨c, 0, 0, ?_, fun h => absurd rfl h, fun _ => c1 (c3 rfl)⟩
    rfl
  · refine ⟨[], (k2 : Int), e2, ?_, fun _ => rfl, fun h' => absurd h' h⟩
    show (bif (e2 != 0) then _ else _) = _
    rw [show (e2 != 0) = true by simp [h], cond_true]
end Go.Proofs.YtbaiahglondepaaGreatDoor
