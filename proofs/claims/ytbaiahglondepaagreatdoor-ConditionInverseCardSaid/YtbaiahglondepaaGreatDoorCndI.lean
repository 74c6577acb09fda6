/- The parser reads a printed condition as it was: the law ConditionInverse. -/
import Derived.Test.YtbaiahglondepaaGreatDoorCndH
set_option linter.unusedVariables false
namespace Go.Proofs.YtbaiahglondepaaGreatDoor
open Go.X

theorem ofNat_dgt {d : Nat} (h : d < 10) : (UInt8.ofNat (48 + d)).toNat = 48 + d := by
  rw [UInt8.toNat_ofNat']; omega
theorem dgt_of {d : Nat} (h : d < 10) : dgt (UInt8.ofNat (48 + d)) = true := dgt_iff.2 (by rw [ofNat_dgt h]; omega)
theorem dd_good {u : Nat} (h : u ≤ 999) : good (Lib.decDigits u) ∧ vl 0 (Lib.decDigits u) = u := by
  have hne : ∀ d, d < 10 → 0 < d → UInt8.ofNat (48 + d) ≠ 48 := fun d h1 h2 e => by
    have := congrArg UInt8.toNat e
    rw [ofNat_dgt h1] at this
    simp at this; omega
  by_cases h1 : u < 10
  · rw [dd_lt h1]
    refine ⟨⟨by simp, by simp only [List.all_cons, List.all_nil, dgt_of h1, Bool.and_true], by simp, fun h => absurd h (by simp)⟩, ?_⟩
    simp only [vl, List.foldl_cons, List.foldl_nil, ofNat_dgt h1]; omega
  · by_cases h2 : u / 10 < 10
    · rw [dd_ge (by omega), dd_lt h2]
      have h3 : u % 10 < 10 := by omega
      refine ⟨⟨by simp, by simp only [List.cons_append, List.nil_append, List.all_cons, List.all_nil, dgt_of h2, dgt_of h3, Bool.and_true], by simp, fun _ => ?_⟩, ?_⟩
      · simp only [List.cons_append, List.head?_cons, ne_eq, Option.some.injEq]
        exact hne _ h2 (by omega)
      · simp only [vl, List.cons_append, List.nil_append, List.foldl_cons, List.foldl_nil, ofNat_dgt h2, ofNat_dgt h3]
        omega
    · rw [dd_ge (u := u) (by omega), dd_ge (u := u / 10) (by omega), dd_lt (u := u / 10 / 10) (by omega)]
      have h3 : u % 10 < 10 := by omega
      have h4 : u / 10 % 10 < 10 := by omega
      have h5 : u / 10 / 10 < 10 := by omega
      refine ⟨⟨by simp, by simp only [List.cons_append, List.nil_append, List.all_cons, List.all_nil, dgt_of h5, dgt_of h4, dgt_of h3, Bool.and_true], by simp, fun _ => ?_⟩, ?_⟩
      · simp only [List.cons_append, List.head?_cons, ne_eq, Option.some.injEq]
        exact hne _ h5 (by omega)
      · simp only [vl, List.cons_append, List.nil_append, List.foldl_cons, List.foldl_nil, ofNat_dgt h5, ofNat_dgt h4, ofNat_dgt h3]
        omega
theorem itoa_good {n : Int} (h0 : 0 ≤ n) (h : n ≤ 999) : good (Lib.itoa n) ∧ (vl 0 (Lib.itoa n) : Int) = n := by
  rw [itoa_of h0]
  obtain ⟨a, b⟩ := dd_good (u := n.toNat) (by omega)
  exact ⟨a, by rw [b]; omega⟩
def nd (R : List UInt8) : Prop := ∀ c r, R = c :: r → dgt c = false
theorem wsp_cons {c : UInt8} (h : spc c = false) (r : List UInt8) : wsp (c :: r) = c :: r := by
  unfold wsp; rw [List.dropWhile_cons_of_neg (by simp [h])]
theorem wsp_sp (r : List UInt8) : wsp (32 :: r) = wsp r := by
  unfold wsp; rw [List.dropWhile_cons_of_pos (by decide)]
theorem dgt_spc {c : UInt8} (h : dgt c = true) : spc c = false ∧ lwr c = false := by
  have := dgt_iff.1 h
  unfold spc lwr
  constructor
  · have e1 : c ≠ 32 := by rintro rfl; simp at this
    have e2 : c ≠ 9 := by rintro rfl; simp at this
    have e3 : c ≠ 10 := by rintro rfl; simp at this
    simp [e1, e2, e3]
  · rw [decide_eq_false (by omega)]; rfl
theorem takeWhile_app {p : UInt8 → Bool} (R : List UInt8) (hR : ∀ c r, R = c :: r → p c = false) : ∀ l : List UInt8, l.all p = true → (l ++ R).takeWhile p = l
  | [], _ => by
    cases R with
    | nil => rfl
    | cons c r => rw [List.nil_append, List.takeWhile_cons_of_neg (by simp [hR c r rfl])]
  | c :: l, h => by
    rw [List.all_cons, Bool.and_eq_true] at h
    rw [List.cons_append, List.takeWhile_cons_of_pos h.1, takeWhile_app R hR l h.2]
theorem tok_num {l R : List UInt8} (h : good l) (hR : nd R) : tok (l ++ R) = l ∧ wsp (l ++ R) = l ++ R := by
  obtain ⟨h1, h2, _⟩ := h
  cases l with
  | nil => exact absurd rfl h1
  | cons c r =>
    have hc : dgt c = true := List.all_eq_true.1 h2 c (by simp)
    obtain ⟨e1, e2⟩ := dgt_spc hc
    constructor
    · rw [List.cons_append, tok_cons, if_neg (by simp [e2]), if_pos hc]
      exact takeWhile_app R hR (c :: r) h2
    · exact wsp_cons e1 _
theorem num_ok {N : Nat} {s : List UInt8} (X : Cx N s) {ck : Int → Option Int} {k : Nat} {n v : Int} {R : List UInt8} (h0 : 0 ≤ v) (h9 : v ≤ 999) (hR : nd R) (h : J s k (Lib.itoa v ++ R)) (hc : ck v = some 0) :
    ∃ k', num ck N (St s k n 0) = some (v, St s k' n 0) ∧ J s k' (wsp R) := by
  obtain ⟨hg, hv⟩ := itoa_good h0 h9
  obtain ⟨ht, _⟩ := tok_num hg hR
  obtain ⟨k', a, b, c⟩ := num_good X (ck := ck) (n := n) (c := 0) h (by rw [ht]; exact hg) (by rw [ht, hv]; exact hc)
  refine ⟨k', ?_, ?_⟩
  · rw [a, if_pos rfl, ht, hv]
  · have := c rfl
    rw [ht, List.drop_left] at this
    exact this
theorem next_no {N : Nat} {s : List UInt8} (X : Cx N s) {k : Nat} {n : Int} {T t : List UInt8} (h : J s k T) (ht : tok T ≠ t) : ∃ k', condition_parser_next N t (St s k n 0) = some (false, St s k' n 0) ∧ J s k' T := by
  obtain ⟨k', a, b⟩ := next_J X (n := n) h t
  refine ⟨k', by rw [a, show (tok T == t) = false by simp [ht]], by rw [if_neg ht] at b; exact b⟩
theorem next_yes {N : Nat} {s : List UInt8} (X : Cx N s) {k : Nat} {n : Int} {T t R : List UInt8} (h : J s k T) (ht : tok T = t) (hT : T = t ++ R) : ∃ k', condition_parser_next N t (St s k n 0) = some (true, St s k' n 0) ∧ J s k' (wsp R) := by
  obtain ⟨k', a, b⟩ := next_J X (n := n) h t
  refine ⟨k', by rw [a, show (tok T == t) = true by simp [ht]], ?_⟩
  rw [if_pos ht] at b
  rw [hT, List.drop_left] at b
  exact b
theorem span_ok {N : Nat} {s : List UInt8} (X : Cx N s) {k : Nat} {n o c : Int} {x : Span} {R : List UInt8} (hx : spn o x = true) (hc : c < 4) (hR : nd R) (hR2 : tok (wsp R) ≠ [46, 46]) (h : J s k (spt x ++ R)) :
    ∃ k', condition_parser_span N o c (St s k n 0) = some (x, St s k' n 0) ∧ J s k' (wsp R) := by
  obtain ⟨a, b⟩ := x
  obtain ⟨h1, h2, h3⟩ := spn_iff.1 hx
  simp only at h1 h2 h3
  have hg := gr_le o
  unfold condition_parser_span
  rw [num95]
  have hck1 : condition_parser_span_1 N a o c = some 0 := by rw [span1_eq, if_neg (by omega), if_neg (by omega)]
  unfold spt at h
  simp only at h
  by_cases he : a = b
  · subst he
    rw [if_pos rfl] at h
    obtain ⟨k1, a1, b1⟩ := num_ok X (n := n) (ck := fun n => condition_parser_span_1 N n o c) h1 (by omega) hR h hck1
    obtain ⟨k2, a2, b2⟩ := next_no X (n := n) b1 hR2
    refine ⟨k2, ?_, b2⟩
    rw [a1]
    simp only [Option.bind_some, a2, cond_false]
  · rw [if_neg he, List.append_assoc, List.append_assoc] at h
    have hn : nd ([46, 46] ++ (Lib.itoa b ++ R)) := fun c r e => by
      obtain ⟨rfl, _⟩ := List.cons.inj e; rfl
    obtain ⟨k1, a1, b1⟩ := num_ok X (n := n) (ck := fun n => condition_parser_span_1 N n o c) h1 (by omega) hn h hck1
    have ew : wsp ([46, 46] ++ (Lib.itoa b ++ R)) = [46, 46] ++ (Lib.itoa b ++ R) := wsp_cons rfl _
    rw [ew] at b1
    obtain ⟨k2, a2, b2⟩ := next_yes X (n := n) b1 (t := [46, 46]) (R := Lib.itoa b ++ R) rfl rfl
    rw [(tok_num (itoa_good (by omega) (by omega)).1 hR).2] at b2
    have hck2 : condition_parser_span_2 N b o (Span.mk a a) = some 0 := by rw [span2_eq, if_neg (by omega), if_neg (by show ¬ b < a; omega)]
    obtain ⟨k3, a3, b3⟩ := num_ok X (n := n) (ck := fun n => condition_parser_span_2 N n o (Span.mk a a)) (v := b) (by omega) (by omega) hR b2 hck2
    refine ⟨k3, ?_, b3⟩
    rw [a1]
    simp only [Option.bind_some, a2, cond_true]
    rw [num96, a3]
    rfl
structure EndR (R : List UInt8) : Prop where
  d : nd R
  t : tok (wsp R) ≠ [46, 46]
  c : tok (wsp R) ≠ [44]
theorem joinTail_cons (sep y : List UInt8) (r : List (List UInt8)) : Lib.joinTail sep (y :: r) = sep ++ Lib.join (y :: r) sep := by
  rw [Lib.join_cons]; unfold Lib.joinTail; simp
theorem spt_head {o : Int} {x : Span} (hx : spn o x = true) (R : List UInt8) : wsp (spt x ++ R) = spt x ++ R := by
  obtain ⟨h1, h2, h3⟩ := spn_iff.1 hx
  have hg := gr_le o
  obtain ⟨⟨g1, g2, _⟩, _⟩ := itoa_good (n := x.From) h1 (by omega)
  have : ∃ c r, spt x ++ R = c :: r ∧ dgt c = true := by
    cases hi : Lib.itoa x.From with
    | nil => exact absurd hi g1
    | cons c r =>
      have hc : dgt c = true := List.all_eq_true.1 g2 c (by rw [hi]; simp)
      unfold spt
      split
      · exact ⟨c, r ++ R, by rw [hi]; rfl, hc⟩
      · exact ⟨c, r ++ ([46, 46] ++ Lib.itoa x.To) ++ R, by rw [hi]; simp, hc⟩
  obtain ⟨c, r, e, hc⟩ := this
  rw [e]; exact wsp_cons (dgt_spc hc).1 r
theorem spans_ok {N : Nat} {s : List UInt8} (X : Cx N s) {o m n : Int} {nt : Bool} {R : List UInt8} (hR : EndR R) : ∀ (xs acc : List Span) (k M : Nat), xs ≠ [] → acc.length + xs.length ≤ 4 → xs.all (spn o) = true → J s k (Lib.join (xs.map spt) [44] ++ R) → xs.length + 1 ≤ M →
    ∃ k', iter (fun s => condition_parser_relation_b1 N o s.1 s.2.1 s.2.2) M (true, St s k n 0, Relation.mk o m nt acc) = some (Relation.mk o m nt (acc ++ xs), St s k' n 0) ∧ J s k' (wsp R) := by
  intro xs
  induction xs with
  | nil => intro _ _ _ h; exact absurd rfl h
  | cons x xs ih =>
    intro acc k M _ hl hall hJ hM
    rw [List.all_cons, Bool.and_eq_true] at hall
    simp only [List.length_cons] at hl hM
    obtain ⟨M, rfl⟩ : ∃ M', M = M' + 1 := ⟨M - 1, by omega⟩
    rw [List.map_cons, Lib.join_cons, List.append_assoc] at hJ
    have step : ∀ (b : Bool) (k1 k2 : Nat) , condition_parser_span N o (acc.length : Int) (St s k n 0) = some (x, St s k1 n 0) → condition_parser_next N [44] (St s k1 n 0) = some (b, St s k2 n 0) →
        condition_parser_relation_b1 N o true (St s k n 0) (Relation.mk o m nt acc) = some (.inl (b, St s k2 n 0, Relation.mk o m nt (acc ++ [x]))) := by
      intro b k1 k2 e1 e2
      unfold condition_parser_relation_b1
      simp only [cond_true]
      show (bif ((0 : Int) == 0) then _ else _) = _
      rw [show ((0 : Int) == 0) = true from rfl, cond_true]
      simp only [e1, Option.bind_some]
      rw [app_some (by simp only [List.length_cons, List.length_nil]; omega)]
      simp only [Option.bind_some, e2]
    cases xs with
    | nil =>
      rw [show Lib.joinTail [44] (([] : List Span).map spt) ++ R = R from rfl] at hJ
      obtain ⟨k1, a1, b1⟩ := span_ok X (n := n) (c := (acc.length : Int)) hall.1 (by omega) hR.d hR.t hJ
      obtain ⟨k2, a2, b2⟩ := next_no X (n := n) b1 hR.c
      refine ⟨k2, ?_, b2⟩
      rw [iter]
      simp only
      rw [step _ _ _ a1 a2]
      simp only
      obtain ⟨M, rfl⟩ : ∃ M', M = M' + 1 := ⟨M - 1, by simp only [List.length_nil] at hM; omega⟩
      rfl
    | cons y ys =>
      rw [List.map_cons, joinTail_cons, List.append_assoc] at hJ
      have hn : nd ([44] ++ (Lib.join (spt y :: ys.map spt) [44] ++ R)) := fun c r e => by obtain ⟨rfl, _⟩ := List.cons.inj e; rfl
      have hw : wsp ([44] ++ (Lib.join (spt y :: ys.map spt) [44] ++ R)) = [44] ++ (Lib.join (spt y :: ys.map spt) [44] ++ R) := wsp_cons rfl _
      obtain ⟨k1, a1, b1⟩ := span_ok X (n := n) (c := (acc.length : Int)) hall.1 (by omega) hn (by rw [hw]; exact fun h => by cases h) hJ
      rw [hw] at b1
      obtain ⟨k2, a2, b2⟩ := next_yes X (n := n) b1 (t := [44]) (R := Lib.join (spt y :: ys.map spt) [44] ++ R) rfl rfl
      have hy : spn o y = true := by have := hall.2; rw [List.all_cons, Bool.and_eq_true] at this; exact this.1
      rw [Lib.join_cons, List.append_assoc, spt_head hy, ← List.append_assoc, ← Lib.join_cons] at b2
      obtain ⟨k3, a3, b3⟩ := ih (acc ++ [x]) k2 M (by simp) (by simp only [List.length_append, List.length_cons, List.length_nil] at *; omega) hall.2 b2 (by omega)
      refine ⟨k3, ?_, b3⟩
      rw [iter]
      simp only
      rw [step _ _ _ a1 a2]
      simp only
      rw [a3, List.append_assoc]
      rfl

/-! ### relations -/
def neq (b : Bool) : List UInt8 := if b then [33, 61] else [61]
theorem letters {o : Int} (h1 : 1 ≤ o) (h6 : o ≤ 6) : ∃ b, letter o = [b] ∧ spc b = false ∧ Lib.index [32, 110, 105, 118, 119, 102, 116] [b] = o ∧ ∀ R, tok (b :: 32 :: R) = [b] := by
  have : o = 1 ∨ o = 2 ∨ o = 3 ∨ o = 4 ∨ o = 5 ∨ o = 6 := by omega
  rcases this with rfl | rfl | rfl | rfl | rfl | rfl
  · exact ⟨110, rfl, rfl, by decide, fun _ => rfl⟩
  · exact ⟨105, rfl, rfl, by decide, fun _ => rfl⟩
  · exact ⟨118, rfl, rfl, by decide, fun _ => rfl⟩
  · exact ⟨119, rfl, rfl, by decide, fun _ => rfl⟩
  · exact ⟨102, rfl, rfl, by decide, fun _ => rfl⟩
  · exact ⟨116, rfl, rfl, by decide, fun _ => rfl⟩
theorem rlt_eq (r : Relation) (R : List UInt8) : rlt r ++ R = letter r.Operand ++ (32 :: ((if r.Mod = 0 then [] else 37 :: 32 :: (Lib.itoa r.Mod ++ [32])) ++ (neq r.Not ++ (32 :: (Lib.join (r.Spans.map spt) [44] ++ R))))) := by
  unfold rlt hdr neq
  by_cases h : r.Mod = 0
  · cases r.Not <;> simp [h]
  · cases r.Not <;> simp [h]
theorem neq_tok (b : Bool) (R : List UInt8) : tok (neq b ++ (32 :: R)) = neq b ∧ wsp (neq b ++ (32 :: R)) = neq b ++ (32 :: R) := by
  cases b <;> exact ⟨rfl, rfl⟩
theorem relation_ok {N : Nat} {s : List UInt8} (X : Cx N s) {k : Nat} {n : Int} {r : Relation} {R : List UInt8} (hr : prp r = true) (h0 : 0 ≤ n) (h6 : n + 1 ≤ 6) (hR : EndR R) (h : J s k (rlt r ++ R)) :
    ∃ k', condition_parser_relation N (St s k n 0) = some (r, St s k' (n + 1) 0) ∧ J s k' (wsp R) := by
  have hN := X.hN
  have hp := Prp.of hr
  have hm := mod_le hr
  rw [rlt_eq] at h
  obtain ⟨b, e1, e2, e3, e4⟩ := letters hp.o1 hp.o6
  rw [e1] at h
  obtain ⟨o, m, nt, l⟩ := r
  have hper : m = 0 ∨ per o m = true := by
    unfold prp at hr
    simp only [Bool.and_eq_true, Bool.or_eq_true, decide_eq_true_eq] at hr
    exact hr.2.2.1
  have hsp : l.all (spn o) = true := by
    unfold prp at hr
    simp only [Bool.and_eq_true] at hr
    exact hr.2.2.2.2.2
  have hl1 := hp.l1
  have hl4 := hp.l4
  simp only at e1 e3 hm h hl1 hl4
  rw [relation_eq]
  obtain ⟨k1, a1, b1, c1⟩ := peek_J X (n := n) (e := 0) h
  have h2 := h.again b1 c1
  have etok := e4 (((if m = 0 then [] else 37 :: 32 :: (Lib.itoa m ++ [32])) ++ (neq nt ++ (32 :: (Lib.join (l.map spt) [44] ++ R)))))
  rw [show ([b] ++ (32 :: ((if m = 0 then [] else 37 :: 32 :: (Lib.itoa m ++ [32])) ++ (neq nt ++ (32 :: (Lib.join (l.map spt) [44] ++ R)))))) = b :: 32 :: ((if m = 0 then [] else 37 :: 32 :: (Lib.itoa m ++ [32])) ++ (neq nt ++ (32 :: (Lib.join (l.map spt) [44] ++ R)))) from rfl] at a1 h2
  rw [etok] at a1
  rw [a1]
  simp only [Option.bind_some]
  unfold strings_Index
  rw [if_pos (by simp), e3]
  simp only [Option.bind_some]
  rw [show ((([b] : List UInt8).length : Int) != 1) = false from rfl, cond_false, decide_eq_false (show ¬ o < 1 by have := hp.o1; simp only at this; omega), cond_false]
  simp only [Option.bind_some]
  rw [lim_eq h0 (by omega), if_neg (by omega)]
  simp only [Option.bind_some]
  unfold tail
  obtain ⟨k2, a2, b2⟩ := take_J X (n := n + 1) h2 (l := [[b]]) (by simp) (by rw [etok]; simp)
  rw [etok] at a2 b2
  rw [a2]
  simp only [Option.bind_some]
  rw [show (b :: 32 :: ((if m = 0 then [] else 37 :: 32 :: (Lib.itoa m ++ [32])) ++ (neq nt ++ (32 :: (Lib.join (l.map spt) [44] ++ R))))).drop ([b] : List UInt8).length = 32 :: ((if m = 0 then [] else 37 :: 32 :: (Lib.itoa m ++ [32])) ++ (neq nt ++ (32 :: (Lib.join (l.map spt) [44] ++ R)))) from rfl, wsp_sp] at b2
  have hmod : ∃ k4 q, condition_parser_next N [37] (St s k2 (n + 1) 0) = some q ∧ (bif q.1 then (condition_parser_number__69 N q.2 o).bind fun r71 => some (r71.2, (Relation.mk o r71.1 false ([]))) else some (q.2, (Relation.mk o 0 false ([])))) = some (St s k4 (n + 1) 0, Relation.mk o m false []) ∧ J s k4 (neq nt ++ (32 :: (Lib.join (l.map spt) [44] ++ R))) := by
    by_cases h0 : m = 0
    · subst h0
      rw [if_pos rfl, List.nil_append, (neq_tok nt _).2] at b2
      obtain ⟨k3, a3, b3⟩ := next_no X (n := n + 1) b2 (t := [37]) (by rw [(neq_tok nt _).1]; cases nt <;> decide)
      exact ⟨k3, _, a3, rfl, b3⟩
    · rw [if_neg h0] at b2
      have ew : wsp ((37 :: 32 :: (Lib.itoa m ++ [32])) ++ (neq nt ++ (32 :: (Lib.join (l.map spt) [44] ++ R)))) = [37] ++ (32 :: (Lib.itoa m ++ (32 :: (neq nt ++ (32 :: (Lib.join (l.map spt) [44] ++ R)))))) := by
        rw [List.cons_append, wsp_cons rfl]; simp
      rw [ew] at b2
      obtain ⟨k3, a3, b3⟩ := next_yes X (n := n + 1) b2 (t := [37]) rfl rfl
      have hn : nd (32 :: (neq nt ++ (32 :: (Lib.join (l.map spt) [44] ++ R)))) := fun c r e => by obtain ⟨rfl, _⟩ := List.cons.inj e; rfl
      rw [wsp_sp, (tok_num (itoa_good hm.1 hm.2).1 hn).2] at b3
      obtain ⟨k4, a4, b4⟩ := num_ok X (n := n + 1) (ck := fun n => condition_parser_relation_1 N n o) hm.1 hm.2 hn b3 (by rw [rel1_eq (by omega)]; rcases hper with h | h; exact absurd h h0; rw [h]; rfl)
      rw [wsp_sp, (neq_tok nt _).2] at b4
      refine ⟨k4, _, a3, ?_, b4⟩
      simp only [cond_true]
      rw [num69, a4]; rfl
  obtain ⟨k4, q, a3, a4, b4⟩ := hmod
  rw [a3]
  simp only [Option.bind_some]
  rw [a4]
  obtain ⟨k5, a5, b5⟩ := take_J X (n := n + 1) b4 (l := [[61], [33, 61]]) (by simp) (by rw [(neq_tok nt _).1]; cases nt <;> decide)
  rw [(neq_tok nt _).1] at a5 b5
  simp only [Option.bind_some, a5]
  rw [List.drop_left, wsp_sp] at b5
  have hq : wsp (Lib.join (l.map spt) [44] ++ R) = Lib.join (l.map spt) [44] ++ R := by
    cases l with
    | nil => simp at hl1
    | cons x l' =>
      rw [List.all_cons, Bool.and_eq_true] at hsp
      rw [List.map_cons, Lib.join_cons, List.append_assoc, spt_head hsp.1]
  rw [hq] at b5
  obtain ⟨k6, a6, b6⟩ := spans_ok X (m := m) (n := n + 1) (nt := neq nt == [33, 61]) hR l [] k5 N (by rintro rfl; simp at hl1) (by simpa using hl4) hsp b5 (by omega)
  rw [a6]
  refine ⟨k6, ?_, b6⟩
  simp only [Option.bind_some, List.nil_append]
  cases nt <;> rfl

/-! ### the whole -/
structure EndL (R : List UInt8) : Prop where
  r : EndR R
  a : tok (wsp R) ≠ [97, 110, 100]
theorem end_and (X : List UInt8) : EndR ([32, 97, 110, 100, 32] ++ X) :=
  ⟨(fun c r e => by obtain ⟨rfl, _⟩ := List.cons.inj e; rfl), (fun h => by cases h), (fun h => by cases h)⟩
theorem end_or (X : List UInt8) : EndL ([32, 111, 114, 32] ++ X) :=
  ⟨⟨(fun c r e => by obtain ⟨rfl, _⟩ := List.cons.inj e; rfl), (fun h => by cases h), (fun h => by cases h)⟩, fun h => by cases h⟩
theorem end_nil : EndL [] := ⟨⟨(fun c r e => by cases e), (fun h => by cases h), (fun h => by cases h)⟩, fun h => by cases h⟩
theorem rlt_head {r : Relation} (hr : prp r = true) (R : List UInt8) : wsp (rlt r ++ R) = rlt r ++ R := by
  have hp := Prp.of hr
  obtain ⟨b, e1, e2, _, _⟩ := letters hp.o1 hp.o6
  rw [rlt_eq, e1]; exact wsp_cons e2 _
theorem list_ok {N : Nat} {s : List UInt8} (X : Cx N s) {R : List UInt8} (hR : EndL R) : ∀ (l acc : List Relation) (k M : Nat) (n : Int), l ≠ [] → 0 ≤ n → n + (l.length : Nat) ≤ 6 → acc.length + l.length ≤ 1000 → l.all prp = true → J s k (lst l ++ R) → l.length + 1 ≤ M →
    ∃ k', iter (fun s => condition_Parse_b2 N s.1 s.2.1 s.2.2) M (acc, true, St s k n 0) = some (St s k' (n + (l.length : Nat)) 0, acc ++ l) ∧ J s k' (wsp R) := by
  intro l
  induction l with
  | nil => intro _ _ _ _ h; exact absurd rfl h
  | cons r l ih =>
    intro acc k M n _ h0 h6 hac hall hJ hM
    rw [List.all_cons, Bool.and_eq_true] at hall
    simp only [List.length_cons] at h6 hM hac
    obtain ⟨M, rfl⟩ : ∃ M', M = M' + 1 := ⟨M - 1, by omega⟩
    unfold lst at hJ
    rw [List.map_cons, Lib.join_cons, List.append_assoc] at hJ
    have step : ∀ (b : Bool) (k1 k2 : Nat), condition_parser_relation N (St s k n 0) = some (r, St s k1 (n + 1) 0) → condition_parser_next N [97, 110, 100] (St s k1 (n + 1) 0) = some (b, St s k2 (n + 1) 0) →
        condition_Parse_b2 N acc true (St s k n 0) = some (.inl (acc ++ [r], b, St s k2 (n + 1) 0)) := by
      intro b k1 k2 e1 e2
      unfold condition_Parse_b2
      simp only [cond_true]
      show (bif ((0 : Int) == 0) then _ else _) = _
      rw [show ((0 : Int) == 0) = true from rfl, cond_true]
      simp only [e1, Option.bind_some]
      rw [app_some (by simp only [List.length_cons, List.length_nil]; omega)]
      simp only [Option.bind_some, e2]
    cases l with
    | nil =>
      rw [show Lib.joinTail [32, 97, 110, 100, 32] (([] : List Relation).map rlt) ++ R = R from rfl] at hJ
      obtain ⟨k1, a1, b1⟩ := relation_ok X hall.1 h0 (by simp only [List.length_nil] at h6; omega) hR.r hJ
      obtain ⟨k2, a2, b2⟩ := next_no X (n := n + 1) b1 hR.a
      refine ⟨k2, ?_, b2⟩
      rw [iter]
      simp only
      rw [step _ _ _ a1 a2]
      simp only
      obtain ⟨M, rfl⟩ : ∃ M', M = M' + 1 := ⟨M - 1, by simp only [List.length_nil] at hM; omega⟩
      rfl
    | cons y ys =>
      rw [List.map_cons, joinTail_cons, List.append_assoc] at hJ
      obtain ⟨k1, a1, b1⟩ := relation_ok X hall.1 h0 (by simp only [List.length_cons] at h6; omega) (end_and _) hJ
      have hw : wsp ([32, 97, 110, 100, 32] ++ (Lib.join (rlt y :: ys.map rlt) [32, 97, 110, 100, 32] ++ R)) = [97, 110, 100] ++ (32 :: (Lib.join (rlt y :: ys.map rlt) [32, 97, 110, 100, 32] ++ R)) := rfl
      rw [hw] at b1
      obtain ⟨k2, a2, b2⟩ := next_yes X (n := n + 1) b1 (t := [97, 110, 100]) rfl rfl
      have hy : prp y = true := by have := hall.2; rw [List.all_cons, Bool.and_eq_true] at this; exact this.1
      rw [wsp_sp, Lib.join_cons, List.append_assoc, rlt_head hy, ← List.append_assoc, ← Lib.join_cons] at b2
      obtain ⟨k3, a3, b3⟩ := ih (acc ++ [r]) k2 M (n + 1) (by simp) (by omega) (by simp only [List.length_cons] at *; omega) (by simp only [List.length_append, List.length_cons, List.length_nil] at *; omega) hall.2 b2 (by omega)
      refine ⟨k3, ?_, b3⟩
      rw [iter]
      simp only
      rw [step _ _ _ a1 a2]
      simp only
      rw [a3, List.append_assoc]
      congr 2
      congr 1
      simp only [List.length_cons]; omega
theorem lst_head {l : List Relation} (h : l ≠ []) (hall : l.all prp = true) (R : List UInt8) : wsp (lst l ++ R) = lst l ++ R := by
  cases l with
  | nil => exact absurd rfl h
  | cons r l =>
    rw [List.all_cons, Bool.and_eq_true] at hall
    unfold lst
    rw [List.map_cons, Lib.join_cons, List.append_assoc, rlt_head hall.1]
theorem tot_cons (l : List Relation) (c : Cnd) : tot (l :: c) = l.length + tot c := by unfold tot; simp
theorem tot_nonneg : ∀ c : Cnd, 0 ≤ tot c
  | [] => Int.le_refl _
  | l :: c => by rw [tot_cons]; have := tot_nonneg c; omega
theorem fine_of {l : List Relation} (h : fine l = true) : l ≠ [] ∧ l.all prp = true := by
  unfold fine at h
  rw [Bool.and_eq_true] at h
  exact ⟨by rintro rfl; simp at h, h.2⟩
theorem conds_ok {N : Nat} {s : List UInt8} (X : Cx N s) : ∀ (c acc : Cnd) (k M : Nat) (n : Int), c ≠ [] → 0 ≤ n → n + tot c ≤ 6 → acc.length + c.length ≤ 1000 → c.all fine = true → J s k (cdt c) → c.length + 1 ≤ M →
    ∃ k' n', iter (fun s => condition_Parse_b1 N s.1 s.2.1 s.2.2) M (acc, true, St s k n 0) = some (St s k' n' 0, acc ++ c) ∧ J s k' [] := by
  intro c
  induction c with
  | nil => intro _ _ _ _ h; exact absurd rfl h
  | cons l c ih =>
    intro acc k M n _ h0 h6 hac hall hJ hM
    have hN := X.hN
    rw [List.all_cons, Bool.and_eq_true] at hall
    obtain ⟨hne, hpr⟩ := fine_of hall.1
    have ht := tot_nonneg c
    rw [tot_cons] at h6
    simp only [List.length_cons] at hM hac
    obtain ⟨M, rfl⟩ : ∃ M', M = M' + 1 := ⟨M - 1, by omega⟩
    unfold cdt at hJ
    rw [List.map_cons, Lib.join_cons] at hJ
    have step : ∀ (b : Bool) (k1 k2 : Nat) (n1 : Int), iter (fun s => condition_Parse_b2 N s.1 s.2.1 s.2.2) N ([], true, St s k n 0) = some (St s k1 n1 0, l) → condition_parser_next N [111, 114] (St s k1 n1 0) = some (b, St s k2 n1 0) →
        condition_Parse_b1 N acc true (St s k n 0) = some (.inl (acc ++ [l], b, St s k2 n1 0)) := by
      intro b k1 k2 n1 e1 e2
      unfold condition_Parse_b1
      simp only [cond_true]
      show (bif ((0 : Int) == 0) then _ else _) = _
      rw [show ((0 : Int) == 0) = true from rfl, cond_true, e1]
      simp only [Option.bind_some]
      rw [app_some (by simp only [List.length_cons, List.length_nil]; omega)]
      simp only [Option.bind_some, e2]
    cases c with
    | nil =>
      rw [show Lib.joinTail [32, 111, 114, 32] (([] : Cnd).map lst) = [] from rfl] at hJ
      obtain ⟨k1, a1, b1⟩ := list_ok X end_nil l [] k N n hne h0 (by omega) (by simp only [List.length_nil]; omega) hpr hJ (by omega)
      obtain ⟨k2, a2, b2⟩ := next_no X (n := n + (l.length : Nat)) b1 (t := [111, 114]) (fun h => by cases h)
      refine ⟨k2, n + (l.length : Nat), ?_, b2⟩
      rw [iter]
      simp only
      rw [step _ _ _ _ a1 a2]
      simp only
      obtain ⟨M, rfl⟩ : ∃ M', M = M' + 1 := ⟨M - 1, by simp only [List.length_nil] at hM; omega⟩
      rfl
    | cons y ys =>
      rw [List.map_cons, joinTail_cons] at hJ
      obtain ⟨k1, a1, b1⟩ := list_ok X (end_or _) l [] k N n hne h0 (by omega) (by simp only [List.length_nil]; omega) hpr hJ (by omega)
      have hw : wsp ([32, 111, 114, 32] ++ (Lib.join (lst y :: ys.map lst) [32, 111, 114, 32])) = [111, 114] ++ (32 :: (Lib.join (lst y :: ys.map lst) [32, 111, 114, 32])) := rfl
      rw [hw] at b1
      obtain ⟨k2, a2, b2⟩ := next_yes X (n := n + (l.length : Nat)) b1 (t := [111, 114]) rfl rfl
      have hy : fine y = true := by have := hall.2; rw [List.all_cons, Bool.and_eq_true] at this; exact this.1
      obtain ⟨y1, y2⟩ := fine_of hy
      rw [wsp_sp, Lib.join_cons, lst_head y1 y2, ← Lib.join_cons] at b2
      obtain ⟨k3, n3, a3, b3⟩ := ih (acc ++ [l]) k2 M (n + (l.length : Nat)) (by simp) (by omega) (by omega) (by simp only [List.length_append, List.length_cons, List.length_nil] at *; omega) hall.2 b2 (by omega)
      refine ⟨k3, n3, ?_, b3⟩
      rw [iter]
      simp only
      rw [step _ _ _ _ a1 a2]
      simp only
      rw [a3, List.append_assoc]
      rfl
theorem tot_mem : ∀ {c : Cnd} {l : List Relation}, l ∈ c → (l.length : Int) ≤ tot c
  | l0 :: c, l, h => by
    rw [tot_cons]
    have := tot_nonneg c
    rcases List.mem_cons.1 h with rfl | h
    · omega
    · have := tot_mem h; omega
theorem tot_len : ∀ {c : Cnd}, c.all fine = true → (c.length : Int) ≤ tot c
  | [], _ => Int.le_refl _
  | l :: c, h => by
    rw [List.all_cons, Bool.and_eq_true] at h
    rw [tot_cons]
    have := tot_len h.2
    have h1 := (fine_of h.1).1
    have : 0 < l.length := by cases l with | nil => exact absurd rfl h1 | cons _ _ => simp
    simp only [List.length_cons]; omega
/-- Valid and short. -/
structure Vs (c : Cnd) : Prop where
  v : vd c = true
  t : tot c ≤ 6
theorem Vs.fine {c : Cnd} (h : Vs c) : c.all fine = true := by
  have := h.v; unfold vd at this; simp only [Bool.and_eq_true] at this; exact this.2.1
theorem Vs.sml {c : Cnd} (h : Vs c) : Sml c := ⟨by have := tot_len h.fine; have := h.t; omega, fun l hl => by have := tot_mem hl; have := h.t; omega⟩
theorem Vs.sz {N : Nat} {c : Cnd} (h : Vs c) (hN : 3000 ≤ N) : Sz N c := by
  have h1 := tot_len h.fine
  have h2 := h.t
  refine ⟨hN, by omega, fun l hl => by have := tot_mem hl; omega, fun l hl r hr => ?_⟩
  have := (Prp.of (vd_prp h.v l hl r hr)).l4
  omega
theorem Vs.of {c : Cnd} (hv : vd c = true) (hs : Sml c) : Vs c := by
  refine ⟨hv, ?_⟩
  have hb : ∀ c : Cnd, (∀ l ∈ c, l.length ≤ 80) → tot c ≤ 80 * c.length := by
    intro c
    induction c with
    | nil => intro _; exact Int.le_refl _
    | cons l c ih =>
      intro h
      rw [tot_cons]
      have h1 := h l (by simp)
      have h2 := ih (fun x hx => h x (by simp [hx]))
      simp only [List.length_cons]; omega
  have h1 := hb c hs.l
  have h2 := hs.n
  have h3 := tot_nonneg c
  unfold vd at hv
  simp only [Bool.and_eq_true, decide_eq_true_eq] at hv
  have h4 := hv.2.2
  rw [wrap_id (by omega) (by omega)] at h4
  exact h4
theorem cdt_len {c : Cnd} (h : Vs c) : (cdt c).length ≤ 124920 := by
  have hM := h.sml
  have hp := vd_prp h.v
  have hlen := join_len 4160 [32, 111, 114, 32] (c.map lst) (fun x hx => by obtain ⟨l, hl, rfl⟩ := List.mem_map.1 hx; exact lst_len (hp l hl) (hM.l l hl))
  rw [List.length_map] at hlen
  have h3 : c.length * (4160 + ([32, 111, 114, 32] : List UInt8).length) ≤ 124920 := Nat.le_trans (Nat.mul_le_mul_right _ hM.n) (by decide)
  unfold cdt; omega
theorem cdt_head {c : Cnd} (h : Vs c) : wsp (cdt c) = cdt c := by
  cases c with
  | nil => rfl
  | cons l c =>
    have := h.fine
    rw [List.all_cons, Bool.and_eq_true] at this
    obtain ⟨a, b⟩ := fine_of this.1
    unfold cdt
    rw [List.map_cons, Lib.join_cons, lst_head a b]
theorem Parse_ok {N : Nat} {c : Cnd} (h : Vs c) (hN : 130000 ≤ N) : condition_Parse N (cdt c) = some (c, 0, 0) := by
  have hl := cdt_len h
  have X : Cx N (cdt c) := ⟨by omega, by omega⟩
  have hne : c ≠ [] := by rintro rfl; have := h.v; simp [vd] at this
  have hn := h.sml.n
  obtain ⟨k1, n1, a1, b1⟩ := conds_ok X c [] 0 N 0 hne (Int.le_refl _) (by have := h.t; omega) (by simp only [List.length_nil]; omega) h.fine ⟨Nat.zero_le _, by rw [List.drop_zero, cdt_head h]⟩ (by omega)
  unfold condition_Parse
  rw [show (Parser.mk (cdt c) 0 0 0) = St (cdt c) 0 0 0 from rfl, a1]
  simp only [Option.bind_some]
  obtain ⟨k2, a2, b2, c2⟩ := skip_J X (n := n1) (e := 0) b1
  rw [a2]
  simp only [Option.bind_some]
  have hk : ¬ ((k2 : Int) < ((cdt c).length : Int)) := by
    have := congrArg List.length c2
    rw [List.length_drop, List.length_nil] at this
    omega
  rw [decide_eq_false hk]
  rfl

theorem conditionInverse_law (c : Cnd) (s : List UInt8) (hc : CndOk c) : ∃ N, calquelaw08_ConditionInverse N c s = some true := by
  refine ⟨sz c + 140000, ?_⟩
  generalize hNN : sz c + 140000 = N
  have Sc : Sz N c := Sz.of (by omega)
  have aw : calquelaw08_awake N = some true := by rw [show N = (N - 3000) + 3000 by omega]; exact awake_eq _
  unfold calquelaw08_ConditionInverse
  rw [aw]
  simp only [Option.bind_some, Bool.not_true, cond_false]
  obtain ⟨b, hb⟩ := Few_some Sc
  rw [hb]
  simp only [Option.bind_some]
  cases b with
  | false => rfl
  | true =>
  have M := Sml.of Sc hc hb
  simp only [Bool.not_true, cond_false]
  by_cases hl : (s.length : Int) > 400
  · rw [decide_eq_true hl]; rfl
  rw [decide_eq_false hl, cond_false, prog_Print Sc M]
  simp only [Option.bind_some]
  have h1 : (bif ((prt c).2 == 0) then
            (condition_Parse N (prt c).1).bind fun r23 =>
            bif (r23.2.2 != 0) then
              some (.inr false)
            else
              (calqueref08_Equal N r23.1 c).bind fun r31 =>
              bif (!r31) then
                some (.inr false)
              else
                some (.inl ())
          else
            some (.inl ())) = some (Sum.inl () : Unit ⊕ Bool) := by
    unfold prt
    by_cases hv : vd c = true
    · have V := Vs.of hv (M hv)
      rw [if_pos hv]
      simp only
      rw [show ((0 : Int) == 0) = true from rfl, cond_true, Parse_ok V (by omega)]
      simp only [Option.bind_some]
      rw [show ((0 : Int) != 0) = false from rfl, cond_false, ref_Equal_eq _ Sc, eqC_refl]
      rfl
    · rw [if_neg hv]; rfl
  rw [h1]
  simp only [Option.bind_some, Sum.elim_inl]
  obtain ⟨d, i, e, hd, he1, he2⟩ := Parse_any (N := N) (s := s) ⟨by omega, by omega⟩
  rw [hd]
  simp only [Option.bind_some]
  by_cases he : e = 0
  · subst he
    obtain ⟨hv, ht⟩ := he2 rfl
    have V : Vs d := ⟨hv, ht⟩
    have Sd : Sz N d := V.sz (by omega)
    rw [show ((0 : Int) != 0) = false from rfl, cond_false, prog_Print Sd (fun _ => V.sml)]
    simp only [Option.bind_some]
    unfold prt
    rw [if_pos hv]
    simp only
    rw [Parse_ok V (by omega)]
    simp only [Option.bind_some]
    rw [show ((0 : Int) == 0) = true from rfl, cond_true, cond_true, ref_Equal_eq _ Sd, eqC_refl]
    rfl
  · rw [show (e != 0) = true by simp [he], cond_true, he1 he]
    rfl
end Go.Proofs.YtbaiahglondepaaGreatDoor
