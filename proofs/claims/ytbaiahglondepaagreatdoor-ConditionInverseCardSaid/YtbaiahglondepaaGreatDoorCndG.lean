/- The parser: what each of its steps does at a place of a text. -/
import Derived.Test.YtbaiahglondepaaGreatDoorCndF
import Derived.Test.YtbaiahglondepaaGreatDoorExt08f
set_option linter.unusedVariables false
namespace Go.Proofs.YtbaiahglondepaaGreatDoor
open Go.X

theorem iter_inv {σ β : Type} {body : σ → Option (σ ⊕ β)} (I : σ → Prop) (Q : β → Prop) (μ : σ → Nat)
    (h : ∀ s, I s → (∃ s', body s = some (.inl s') ∧ I s' ∧ μ s' < μ s) ∨ (∃ b, body s = some (.inr b) ∧ Q b)) : ∀ N s, I s → μ s < N → ∃ b, iter body N s = some b ∧ Q b
  | 0, s, _, hN => absurd hN (Nat.not_lt_zero _)
  | N + 1, s, hI, hN => by
    rw [iter]
    rcases h s hI with ⟨s', hb, hI', hm⟩ | ⟨b, hb, hQ⟩
    · rw [hb]; exact iter_inv I Q μ h N s' hI' (by omega)
    · rw [hb]; exact ⟨b, rfl, hQ⟩
theorem iter_swap {σ β γ : Type} {b1 : σ → Option (σ ⊕ β)} {b2 : σ → Option (σ ⊕ γ)} (g : β → γ) (h : ∀ s, b2 s = (b1 s).map (Sum.map id g)) : ∀ N s, iter b2 N s = (iter b1 N s).map g
  | 0, s => rfl
  | N + 1, s => by
    rw [iter, iter, h s]
    cases b1 s with
    | none => rfl
    | some r =>
      cases r with
      | inl s' => exact iter_swap g h N s'
      | inr b => rfl

/-! ### tokens -/
def spc (c : UInt8) : Bool := c == 32 || (c == 9 || c == 10)
def lwr (c : UInt8) : Bool := decide (97 ≤ c.toNat) && decide (c.toNat ≤ 122)
def wsp (l : List UInt8) : List UInt8 := l.dropWhile spc
def marks : List (List UInt8) := [[46, 46], [33, 61], [37], [61], [44]]
def mtok : List (List UInt8) → List UInt8 → List UInt8
  | [], _ => []
  | m :: ms, l => if Lib.hasPrefix l m then m else mtok ms l
def tok : List UInt8 → List UInt8
  | [] => []
  | c :: r => if lwr c then (c :: r).takeWhile lwr else if dgt c then (c :: r).takeWhile dgt else mtok marks (c :: r)
theorem tok_cons (c : UInt8) (r : List UInt8) : tok (c :: r) = if lwr c then (c :: r).takeWhile lwr else if dgt c then (c :: r).takeWhile dgt else mtok marks (c :: r) := rfl
theorem wsp_wsp : ∀ l, wsp (wsp l) = wsp l
  | [] => rfl
  | c :: r => by
    unfold wsp
    cases h : spc c with
    | true => rw [List.dropWhile_cons_of_pos h]; exact wsp_wsp r
    | false => rw [List.dropWhile_cons_of_neg (by simp [h]), List.dropWhile_cons_of_neg (by simp [h])]
theorem takeWhile_len {p : UInt8 → Bool} (l : List UInt8) : (l.takeWhile p).length ≤ l.length := (List.takeWhile_sublist p).length_le
theorem pre_len {l m : List UInt8} (h : Lib.hasPrefix l m = true) : m.length ≤ l.length := (List.isPrefixOf_iff_prefix.1 h).length_le
theorem mtok_len : ∀ ms l, (mtok ms l).length ≤ l.length
  | [], _ => Nat.zero_le _
  | m :: ms, l => by
    unfold mtok
    split
    case isTrue h => exact pre_len h
    case isFalse => exact mtok_len ms l
theorem mtok_mem : ∀ ms l, mtok ms l = [] ∨ mtok ms l ∈ ms
  | [], _ => .inl rfl
  | m :: ms, l => by
    unfold mtok
    split
    · exact .inr (by simp)
    · rcases mtok_mem ms l with h | h
      · exact .inl h
      · exact .inr (by simp [h])
theorem takeWhile_mem {p : UInt8 → Bool} : ∀ (l : List UInt8) {x : UInt8}, x ∈ l.takeWhile p → p x = true
  | [], _, h => by cases h
  | c :: r, x, h => by
    cases hp : p c with
    | true =>
      rw [List.takeWhile_cons_of_pos hp] at h
      rcases List.mem_cons.1 h with rfl | h
      · exact hp
      · exact takeWhile_mem r h
    | false => rw [List.takeWhile_cons_of_neg (by simp [hp])] at h; cases h
theorem tok_len (l : List UInt8) : (tok l).length ≤ l.length := by
  unfold tok
  split
  · exact Nat.le_refl _
  · split
    · exact takeWhile_len _
    · split
      · exact takeWhile_len _
      · exact mtok_len _ _
theorem toNat_back (c : UInt8) : ((c.toNat : Int)).toNat.toUInt8 = c := by
  rw [Int.toNat_natCast]; exact UInt8.ofNat_toNat
theorem index_sp (c : UInt8) : decide (Lib.indexByte [32, 9, 10] c ≥ 0) = spc c := by
  unfold spc
  simp only [Lib.indexByte]
  by_cases h1 : c = 32
  · subst h1; rfl
  · by_cases h2 : c = 9
    · subst h2; rfl
    · by_cases h3 : c = 10
      · subst h3; rfl
      · have e1 : ((32 : UInt8) == c) = false := beq_eq_false_iff_ne.2 (fun e => h1 e.symm)
        have e2 : ((9 : UInt8) == c) = false := beq_eq_false_iff_ne.2 (fun e => h2 e.symm)
        have e3 : ((10 : UInt8) == c) = false := beq_eq_false_iff_ne.2 (fun e => h3 e.symm)
        simp only [e1, e2, e3, Bool.false_eq_true, if_false]
        simp [h1, h2, h3]
theorem letter_eq (N : Nat) (c : UInt8) : condition_letter N (c.toNat : Int) = some (lwr c) := by
  unfold condition_letter lwr
  by_cases h : 97 ≤ c.toNat
  · rw [show decide ((c.toNat : Int) ≥ 97) = true from decide_eq_true (by omega), cond_true, show decide (97 ≤ c.toNat) = true from decide_eq_true h, Bool.true_and]
    congr 1; exact decide_eq_decide.2 (by omega)
  · rw [show decide ((c.toNat : Int) ≥ 97) = false from decide_eq_false (by omega), cond_false, show decide (97 ≤ c.toNat) = false from decide_eq_false h, Bool.false_and]
theorem digit_eq (N : Nat) (c : UInt8) : condition_digit N (c.toNat : Int) = some (dgt c) := by
  unfold condition_digit dgt
  by_cases h : 48 ≤ c.toNat
  · rw [show decide ((c.toNat : Int) ≥ 48) = true from decide_eq_true (by omega), cond_true, show decide (48 ≤ c.toNat) = true from decide_eq_true h, Bool.true_and]
    congr 1; exact decide_eq_decide.2 (by omega)
  · rw [show decide ((c.toNat : Int) ≥ 48) = false from decide_eq_false (by omega), cond_false, show decide (48 ≤ c.toNat) = false from decide_eq_false h, Bool.false_and]

/-! ### steps -/
structure Cx (N : Nat) (s : List UInt8) : Prop where
  hs : s.length ≤ 1000000
  hN : s.length + 3000 ≤ N
abbrev St (s : List UInt8) (k : Nat) (n e : Int) : Parser := Parser.mk s (k : Int) n e
/-- At place k, spaces skipped, the text is T. -/
def J (s : List UInt8) (k : Nat) (T : List UInt8) : Prop := k ≤ s.length ∧ wsp (s.drop k) = T
theorem skip_J {N : Nat} {s : List UInt8} (X : Cx N s) {k : Nat} {n e : Int} {T : List UInt8} (h : J s k T) : ∃ k', condition_parser_skip N (St s k n e) = some (St s k' n e) ∧ k' ≤ s.length ∧ s.drop k' = T := by
  have key : ∀ j k M, k + j = s.length → j < M → ∃ k', iter (fun p => condition_parser_skip_b1 N p) M (St s k n e) = some (St s k' n e) ∧ k' ≤ s.length ∧ s.drop k' = wsp (s.drop k) := by
    intro j
    induction j with
    | zero =>
      intro k M hk hM
      obtain ⟨M, rfl⟩ : ∃ M', M = M' + 1 := ⟨M - 1, by omega⟩
      refine ⟨k, ?_, by omega, ?_⟩
      · rw [iter]
        unfold condition_parser_skip_b1
        simp only [show decide ((k : Int) < (s.length : Int)) = false from decide_eq_false (by omega), cond_false]
      · rw [List.drop_eq_nil_of_le (by omega)]; rfl
    | succ j ih =>
      intro k M hk hM
      obtain ⟨M, rfl⟩ : ∃ M', M = M' + 1 := ⟨M - 1, by omega⟩
      have hlt : k < s.length := by omega
      have e1 : condition_parser_skip_b1 N (St s k n e) = some (if spc s[k] then .inl (St s (k + 1) n e) else .inr (St s k n e)) := by
        unfold condition_parser_skip_b1 strings_IndexByte
        simp only [dlt hlt, cond_true, idx_some (List.getElem?_eq_getElem hlt), Option.bind_some, toNat_back, index_sp]
        cases spc s[k] <;> simp
      rw [iter, e1, List.drop_eq_getElem_cons hlt]
      cases hp : spc s[k] with
      | true =>
        simp only [if_true]
        obtain ⟨k', a, b, c⟩ := ih (k + 1) M (by omega) (by omega)
        refine ⟨k', a, b, ?_⟩
        rw [c]
        unfold wsp
        rw [List.dropWhile_cons_of_pos hp]
      | false =>
        simp only [Bool.false_eq_true, if_false]
        refine ⟨k, rfl, by omega, ?_⟩
        unfold wsp
        rw [List.dropWhile_cons_of_neg (by simp [hp])]
        exact List.drop_eq_getElem_cons hlt
  obtain ⟨hk, hT⟩ := h
  obtain ⟨k', a, b, c⟩ := key (s.length - k) k N (by omega) (by have := X.hN; omega)
  refine ⟨k', ?_, b, by rw [c, hT]⟩
  unfold condition_parser_skip
  rw [a]; rfl
theorem run_while {body : Int → Option (Int ⊕ Int)} (p : UInt8 → Bool) (s : List UInt8) (h1 : ∀ (k : Nat) x, s[k]? = some x → body k = some (if p x then .inl ((k : Int) + 1) else .inr (k : Int))) (h2 : body s.length = some (.inr (s.length : Int))) (N : Nat) (hN : s.length < N) :
    ((iter body N 0).bind fun o => (slc s 0 o).bind fun r => some r) = some (s.takeWhile p) := by
  have key : ∀ j k M, k + j = s.length → j < M → iter body M (k : Int) = some ((k + ((s.drop k).takeWhile p).length : Nat) : Int) := by
    intro j
    induction j with
    | zero =>
      intro k M hk hM
      obtain ⟨M, rfl⟩ : ∃ M', M = M' + 1 := ⟨M - 1, by omega⟩
      obtain rfl : k = s.length := by omega
      rw [iter, h2, List.drop_eq_nil_of_le (by omega)]
      simp
    | succ j ih =>
      intro k M hk hM
      obtain ⟨M, rfl⟩ : ∃ M', M = M' + 1 := ⟨M - 1, by omega⟩
      have hlt : k < s.length := by omega
      rw [iter, h1 k _ (List.getElem?_eq_getElem hlt), List.drop_eq_getElem_cons hlt]
      cases hp : p s[k] with
      | true =>
        simp only [if_true]
        rw [show ((k : Int) + 1) = ((k + 1 : Nat) : Int) by omega, ih (k + 1) M (by omega) (by omega), List.takeWhile_cons_of_pos hp]
        simp only [List.length_cons]
        congr 2; omega
      | false =>
        simp only [Bool.false_eq_true, if_false]
        rw [List.takeWhile_cons_of_neg (by simp [hp])]
        simp
  have := key s.length 0 N (by omega) hN
  rw [show ((0 : Nat) : Int) = 0 from rfl] at this
  rw [this]
  simp only [Option.bind_some, List.drop_zero, Nat.zero_add]
  have hl := takeWhile_len (p := p) s
  unfold slc
  rw [if_pos ⟨by omega, by omega, by omega⟩]
  simp only [Option.bind_some, Int.toNat_zero, List.drop_zero, Int.sub_zero, Int.toNat_natCast]
  congr 1
  obtain ⟨t, ht⟩ := List.takeWhile_prefix p (l := s)
  conv => lhs; arg 2; rw [← ht]
  rw [List.take_left]
theorem run_lwr {N : Nat} {s : List UInt8} (hN : s.length < N) : condition_run__87 N s = some (s.takeWhile lwr) := by
  unfold condition_run__87
  refine run_while lwr s (fun k x hk => ?_) ?_ N hN
  · unfold condition_run__87_b1
    simp only [dltx hk, cond_true, idx_some hk, Option.bind_some, letter_eq]
    cases lwr x <;> rfl
  · unfold condition_run__87_b1
    simp only [dnlt, cond_false]
theorem run_dgt {N : Nat} {s : List UInt8} (hN : s.length < N) : condition_run__89 N s = some (s.takeWhile dgt) := by
  unfold condition_run__89
  refine run_while dgt s (fun k x hk => ?_) ?_ N hN
  · unfold condition_run__89_b1
    simp only [dltx hk, cond_true, idx_some hk, Option.bind_some, digit_eq]
    cases dgt x <;> rfl
  · unfold condition_run__89_b1
    simp only [dnlt, cond_false]
theorem run_marks (p : Parser) (T : List UInt8) : ∀ ms : List (List UInt8), (∀ m ∈ ms, m ≠ []) → Sum.elim (fun _ : Unit => some (([] : List UInt8), p)) (fun o => some o) (run (σ := Unit) (β := Unit ⊕ (List UInt8 × Parser)) (fun _ x => if Lib.hasPrefix T x then .inr (.inr (x, p)) else .inl ()) (fun _ => .inl ()) () ms) = some (mtok ms T, p)
  | [], _ => rfl
  | m :: ms, h => by
    unfold run mtok
    cases hp : Lib.hasPrefix T m with
    | true => rfl
    | false => simp only [Bool.false_eq_true, if_false]; exact run_marks p T ms (fun x hx => h x (by simp [hx]))
theorem peek_J {N : Nat} {s : List UInt8} (X : Cx N s) {k : Nat} {n e : Int} {T : List UInt8} (h : J s k T) : ∃ k', condition_parser_peek N (St s k n e) = some (tok T, St s k' n e) ∧ k' ≤ s.length ∧ s.drop k' = T := by
  obtain ⟨k', a, b, c⟩ := skip_J X (n := n) (e := e) h
  refine ⟨k', ?_, b, c⟩
  unfold condition_parser_peek
  rw [a]
  have hT : T.length ≤ s.length := by rw [← c, List.length_drop]; omega
  have hN := X.hN
  have e1 : slc s (k' : Int) (s.length : Int) = some T := by
    unfold slc
    rw [if_pos ⟨by omega, by omega, by omega⟩, Int.toNat_natCast, c]
    rw [List.take_of_length_le (by rw [← c, List.length_drop]; omega)]
  simp only [Option.bind_some]
  show (slc s (k' : Int) (s.length : Int)).bind _ = _
  rw [e1]
  simp only [Option.bind_some]
  cases T with
  | nil => rfl
  | cons c0 r =>
    have e2 : idx (c0 :: r) 0 = some c0 := rfl
    rw [show ((c0 :: r) == ([] : List UInt8)) = false from rfl, cond_false, e2]
    simp only [Option.bind_some, letter_eq, digit_eq]
    rw [tok_cons]
    cases h1 : lwr c0 with
    | true => rw [cond_true, run_lwr (by omega)]; simp
    | false =>
      rw [cond_false]
      cases h2 : dgt c0 with
      | true => rw [cond_true, run_dgt (by omega)]; simp
      | false =>
        rw [cond_false]
        simp only [Bool.false_eq_true, if_false]
        have e3 := iter_list' (body := fun x => condition_parser_peek_b1 N (St s k' n e) (c0 :: r) x) (σ := Unit) (fun _ k => k) marks (fun _ x => if Lib.hasPrefix (c0 :: r) x then .inr (.inr (x, St s k' n e)) else .inl ()) (fun _ => .inl ()) (fun _ k x hx => ?_) (fun _ => ?_) N () (by show 5 < N; omega)
        · rw [e3]
          simp only [Option.bind_some]
          exact run_marks _ _ marks (by decide)
        · unfold condition_parser_peek_b1 strings_HasPrefix
          show (bif decide ((k : Int) < (marks.length : Int)) then _ else _) = _
          rw [dltx hx, cond_true]
          show (idx marks k).bind _ = _
          simp only [idx_some hx, Option.bind_some]
          cases Lib.hasPrefix (c0 :: r) x <;> rfl
        · unfold condition_parser_peek_b1
          rfl
theorem J.of {s : List UInt8} {k : Nat} {T : List UInt8} (hk : k ≤ s.length) (h : s.drop k = T) : J s k (wsp T) := ⟨hk, by rw [h]⟩
theorem J.again {s : List UInt8} {k k' : Nat} {T : List UInt8} (h0 : J s k T) (hk : k' ≤ s.length) (h : s.drop k' = T) : J s k' T := ⟨hk, by rw [h, ← h0.2, wsp_wsp]⟩
theorem J.adv {s : List UInt8} {k' : Nat} {T t : List UInt8} (hk : k' ≤ s.length) (h : s.drop k' = T) (ht : t.length ≤ T.length) : J s (k' + t.length) (wsp (T.drop t.length)) := by
  have : T.length = s.length - k' := by rw [← h, List.length_drop]
  exact J.of (by omega) (by rw [← h, List.drop_drop])
theorem J.any {s : List UInt8} {k : Nat} (h : k ≤ s.length) : J s k (wsp (s.drop k)) := ⟨h, rfl⟩
theorem adv_wrap {N : Nat} {s : List UInt8} (X : Cx N s) {k' : Nat} {T t : List UInt8} (hk : k' ≤ s.length) (h : s.drop k' = T) (ht : t.length ≤ T.length) : IntKind.wrap .i64 ((k' : Int) + (t.length : Int)) = ((k' + t.length : Nat) : Int) := by
  have : T.length = s.length - k' := by rw [← h, List.length_drop]
  have := X.hs
  rw [wrap_id (by omega) (by omega)]; omega
theorem next_J {N : Nat} {s : List UInt8} (X : Cx N s) {k : Nat} {n : Int} {T : List UInt8} (h : J s k T) (t : List UInt8) :
    ∃ k', condition_parser_next N t (St s k n 0) = some (tok T == t, St s k' n 0) ∧ J s k' (if tok T = t then wsp (T.drop t.length) else T) := by
  obtain ⟨k', a, b, c⟩ := peek_J X (n := n) (e := 0) h
  unfold condition_parser_next
  show ∃ k', (bif ((0 : Int) != 0) then _ else _) = _ ∧ _
  rw [show ((0 : Int) != 0) = false from rfl, cond_false, a]
  simp only [Option.bind_some]
  by_cases ht : tok T = t
  · have hl : t.length ≤ T.length := by rw [← ht]; exact tok_len T
    refine ⟨k' + t.length, ?_, ?_⟩
    · rw [show (tok T != t) = false by simp [ht], cond_false, show (tok T == t) = true by simp [ht], adv_wrap X b c hl]
    · rw [if_pos ht]; exact J.adv b c hl
  · refine ⟨k', ?_, ?_⟩
    · rw [show (tok T != t) = true by simp [ht], cond_true, show (tok T == t) = false by simp [ht]]
    · rw [if_neg ht]; exact h.again b c
theorem next_bad {N : Nat} {s : List UInt8} {k : Nat} {n e : Int} (he : e ≠ 0) (t : List UInt8) : condition_parser_next N t (St s k n e) = some (false, St s k n e) := by
  unfold condition_parser_next
  show (bif (e != 0) then _ else _) = _
  rw [show (e != 0) = true by simp [he], cond_true]
theorem next_any {N : Nat} {s : List UInt8} (X : Cx N s) {k : Nat} {n e : Int} (hk : k ≤ s.length) (t : List UInt8) :
    ∃ b k', condition_parser_next N t (St s k n e) = some (b, St s k' n e) ∧ k' ≤ s.length := by
  by_cases he : e = 0
  · subst he
    obtain ⟨k', a, b⟩ := next_J X (n := n) (J.any hk) t
    exact ⟨_, k', a, b.1⟩
  · exact ⟨false, k, next_bad he t, hk⟩
theorem fail_eq (N : Nat) (s : List UInt8) (k : Nat) (n e d : Int) : condition_parser_fail N d (St s k n e) = some (St s k n (if e = 0 then d else e)) := by
  unfold condition_parser_fail
  by_cases h : e = 0
  · subst h; rfl
  · show (bif (e == 0) then _ else _) = _
    rw [show (e == 0) = false by simp [h], cond_false, if_neg h]
theorem slices_findS {N : Nat} (l : List (List UInt8)) (m : List UInt8) (hN : l.length < N) : slices_Contains_string_string N l m = some (l.contains m) := by
  unfold slices_Contains_string_string slices_Index_string_string
  rw [iter_find l (fun x => m == x) (fun k x hk => ?_) ?_ N hN]
  · rw [find_any, Option.bind_some, find_ge, List.contains_eq_any_beq]
  · unfold slices_Index_string_string_b1
    simp only [dnlt, cond_false]
  · unfold slices_Index_string_string_b1
    simp only [dltx hk, cond_true, idx_some hk, Option.bind_some]
    cases m == x <;> rfl
theorem take_J {N : Nat} {s : List UInt8} (X : Cx N s) {k : Nat} {n : Int} {T : List UInt8} (h : J s k T) {l : List (List UInt8)} (hl : l.length < 100) (hm : l.contains (tok T) = true) :
    ∃ k', condition_parser_take N l (St s k n 0) = some (tok T, St s k' n 0) ∧ J s k' (wsp (T.drop (tok T).length)) := by
  obtain ⟨k', a, b, c⟩ := peek_J X (n := n) (e := 0) h
  have hN := X.hN
  refine ⟨k' + (tok T).length, ?_, J.adv b c (tok_len T)⟩
  unfold condition_parser_take
  rw [a]
  simp only [Option.bind_some]
  show (bif ((0 : Int) == 0) then _ else _) = _
  rw [show ((0 : Int) == 0) = true from rfl, cond_true, slices_findS _ _ (by omega), hm]
  simp only [Option.bind_some, Bool.not_true, cond_false]
  show (bif ((0 : Int) != 0) then _ else _) = _
  rw [show ((0 : Int) != 0) = false from rfl, cond_false]
  show some (tok T, Parser.mk s (IntKind.wrap .i64 ((k' : Int) + ((tok T).length : Int))) n 0) = _
  rw [adv_wrap X b c (tok_len T)]
theorem take_any {N : Nat} {s : List UInt8} (X : Cx N s) {k : Nat} {n e : Int} (hk : k ≤ s.length) {l : List (List UInt8)} (hl : l.length < 100) :
    ∃ t k' e', condition_parser_take N l (St s k n e) = some (t, St s k' n e') ∧ k' ≤ s.length ∧ (e' = 0 → e = 0) := by
  by_cases he : e = 0
  · subst he
    cases hm : l.contains (tok (wsp (s.drop k))) with
    | true =>
      obtain ⟨k', a, b⟩ := take_J X (n := n) (J.any hk) hl hm
      exact ⟨_, k', 0, a, b.1, fun _ => rfl⟩
    | false =>
      obtain ⟨k', a, b, c⟩ := peek_J X (n := n) (e := 0) (J.any hk)
      have hN := X.hN
      refine ⟨[], k', 3, ?_, b, fun h => by cases h⟩
      unfold condition_parser_take
      rw [a]
      simp only [Option.bind_some]
      show (bif ((0 : Int) == 0) then _ else _) = _
      rw [show ((0 : Int) == 0) = true from rfl, cond_true, slices_findS _ _ (by omega), hm]
      simp only [Option.bind_some, Bool.not_false, cond_true, fail_eq, if_true]
      rfl
  · obtain ⟨k', a, b, c⟩ := peek_J X (n := n) (e := e) (J.any hk)
    refine ⟨[], k', e, ?_, b, fun h => h⟩
    unfold condition_parser_take
    rw [a]
    simp only [Option.bind_some]
    show (bif (e == 0) then _ else bif (e != 0) then _ else _) = _
    rw [show (e == 0) = false by simp [he], show (e != 0) = true by simp [he], cond_false, cond_true]

/-! ### numbers -/
def num (ck : Int → Option Int) (N : Nat) (x0 : Parser) : Option (Int × Parser) :=
  (condition_parser_peek N x0).bind fun r10 =>
  bif (r10.1 == ([])) then
    (condition_parser_fail N 3 r10.2).bind fun r18 =>
    bif (r18.e != 0) then
      some (0, r18)
    else
      (strconv_Atoi N r10.1).bind fun r25 =>
      (ck r25.1).bind fun r28 =>
      bif (r28 != 0) then
        (condition_parser_fail N r28 r18).bind fun r32 =>
        some (0, r32)
      else
        some (r25.1, (Parser.mk r18.s (IntKind.wrap .i64 (r18.at_ + (r10.1.length : Int))) r18.relations r18.e))
  else
    (idx r10.1 0).bind fun c38 =>
    (condition_digit N (c38.toNat : Int)).bind fun r40 =>
    bif (!r40) then
      (condition_parser_fail N 3 r10.2).bind fun r43 =>
      bif (r43.e != 0) then
        some (0, r43)
      else
        (strconv_Atoi N r10.1).bind fun r50 =>
        (ck r50.1).bind fun r53 =>
        bif (r53 != 0) then
          (condition_parser_fail N r53 r43).bind fun r57 =>
          some (0, r57)
        else
          some (r50.1, (Parser.mk r43.s (IntKind.wrap .i64 (r43.at_ + (r10.1.length : Int))) r43.relations r43.e))
    else
      bif (decide ((r10.1.length : Int) > 3)) then
        (condition_parser_fail N 3 r10.2).bind fun r64 =>
        bif (r64.e != 0) then
          some (0, r64)
        else
          (strconv_Atoi N r10.1).bind fun r71 =>
          (ck r71.1).bind fun r74 =>
          bif (r74 != 0) then
            (condition_parser_fail N r74 r64).bind fun r78 =>
            some (0, r78)
          else
            some (r71.1, (Parser.mk r64.s (IntKind.wrap .i64 (r64.at_ + (r10.1.length : Int))) r64.relations r64.e))
      else
        bif (decide ((r10.1.length : Int) > 1)) then
          (idx r10.1 0).bind fun c85 =>
          (show Option Parser from
            bif ((c85.toNat : Int) == 48) then
              (condition_parser_fail N 3 r10.2).bind fun r93 =>
              some r93
            else
              some r10.2).bind fun o87 =>
          bif (o87.e != 0) then
            some (0, o87)
          else
            (strconv_Atoi N r10.1).bind fun r104 =>
            (ck r104.1).bind fun r107 =>
            bif (r107 != 0) then
              (condition_parser_fail N r107 o87).bind fun r111 =>
              some (0, r111)
            else
              some (r104.1, (Parser.mk o87.s (IntKind.wrap .i64 (o87.at_ + (r10.1.length : Int))) o87.relations o87.e))
        else
          bif (r10.2.e != 0) then
            some (0, r10.2)
          else
            (strconv_Atoi N r10.1).bind fun r118 =>
            (ck r118.1).bind fun r121 =>
            bif (r121 != 0) then
              (condition_parser_fail N r121 r10.2).bind fun r125 =>
              some (0, r125)
            else
              some (r118.1, (Parser.mk r10.2.s (IntKind.wrap .i64 (r10.2.at_ + (r10.1.length : Int))) r10.2.relations r10.2.e))
theorem num69 (N : Nat) (p : Parser) (x : Int) : condition_parser_number__69 N p x = num (fun n => condition_parser_relation_1 N n x) N p := rfl
theorem num95 (N : Nat) (p : Parser) (x y : Int) : condition_parser_number__95 N p x y = num (fun n => condition_parser_span_1 N n x y) N p := rfl
theorem num96 (N : Nat) (p : Parser) (x : Int) (y : Span) : condition_parser_number__96 N p x y = num (fun n => condition_parser_span_2 N n x y) N p := rfl
/-- A numeral as the grammar has it. -/
def good (t : List UInt8) : Prop := t ≠ [] ∧ t.all dgt = true ∧ t.length ≤ 3 ∧ (1 < t.length → t.head? ≠ some 48)
theorem tok_digits {c : UInt8} {r T : List UInt8} (h : tok T = c :: r) (hc : dgt c = true) : (c :: r).all dgt = true := by
  cases T with
  | nil => cases h
  | cons d q =>
    rw [tok_cons] at h
    have hcn := dgt_iff.1 hc
    by_cases h1 : lwr d = true
    · rw [if_pos h1, List.takeWhile_cons_of_pos h1] at h
      obtain ⟨rfl, _⟩ := List.cons.inj h
      unfold lwr at h1; simp at h1; omega
    · rw [if_neg h1] at h
      by_cases h2 : dgt d = true
      · rw [if_pos h2] at h
        rw [← h, List.all_eq_true]
        intro x hx
        exact takeWhile_mem _ hx
      · rw [if_neg h2] at h
        exfalso
        rcases mtok_mem marks (d :: q) with h0 | h0
        · rw [h0] at h; cases h
        · rw [h] at h0
          have : ∀ m ∈ marks, ∀ c ∈ m.head?, dgt c = false := by decide
          have := this _ h0 c rfl
          rw [hc] at this; cases this
theorem atoi_digits {t : List UInt8} (h : t ≠ []) (hd : t.all dgt = true) : Lib.atoi t = some (vl 0 t : Int) := by
  cases t with
  | nil => exact absurd rfl h
  | cons b r =>
    have hb := dgt_iff.1 (List.all_eq_true.1 hd b (by simp))
    have h1 : (b == 45) = false := beq_eq_false_iff_ne.2 (by rintro rfl; simp at hb)
    have h2 : (b == 43) = false := beq_eq_false_iff_ne.2 (by rintro rfl; simp at hb)
    unfold Lib.atoi Lib.decNat
    simp only [h1, h2, Bool.false_eq_true, if_false, List.isEmpty_cons]
    rw [decFrom_vl _ _ hd]; rfl
theorem Atoi_good {N : Nat} {t : List UInt8} (h : good t) : strconv_Atoi N t = some ((vl 0 t : Int), ()) ∧ vl 0 t ≤ 999 := by
  obtain ⟨h1, h2, h3, _⟩ := h
  have hv := vl_lt t 0 0 h2 (by simp)
  have hp : 10 ^ (0 + t.length) ≤ 10 ^ 3 := Nat.pow_le_pow_right (by omega) (by omega)
  have hle : vl 0 t ≤ 999 := by omega
  refine ⟨?_, hle⟩
  unfold strconv_Atoi
  rw [if_pos (by omega), atoi_digits h1 h2]
  simp only
  rw [if_pos (by rw [inR_i64]; omega)]
theorem num_good {N : Nat} {s : List UInt8} (X : Cx N s) {ck : Int → Option Int} {k : Nat} {n c : Int} {T : List UInt8} (h : J s k T) (hg : good (tok T)) (hc : ck (vl 0 (tok T) : Int) = some c) :
    ∃ k', num ck N (St s k n 0) = some (if c = 0 then (vl 0 (tok T) : Int) else 0, St s k' n c) ∧ k' ≤ s.length ∧ (c = 0 → J s k' (wsp (T.drop (tok T).length))) := by
  obtain ⟨k', a, b, d⟩ := peek_J X (n := n) (e := 0) h
  obtain ⟨hat, _⟩ := Atoi_good (N := N) hg
  have hadv := adv_wrap X b d (tok_len T)
  have hJ := J.adv b d (tok_len T)
  obtain ⟨g1, g2, g3, g4⟩ := hg
  have hcore : ((strconv_Atoi N (tok T)).bind fun r118 => (ck r118.1).bind fun r121 => bif (r121 != 0) then (condition_parser_fail N r121 (St s k' n 0)).bind fun r125 => some ((0 : Int), r125) else some (r118.1, (Parser.mk s (IntKind.wrap .i64 ((k' : Int) + ((tok T).length : Int))) n 0))) =
      some (if c = 0 then (vl 0 (tok T) : Int) else 0, if c = 0 then St s (k' + (tok T).length) n c else St s k' n c) := by
    rw [hat]
    simp only [Option.bind_some, hc, hadv, fail_eq, if_true]
    by_cases h0 : c = 0
    · subst h0; rfl
    · rw [show (c != 0) = true by simp [h0], cond_true, if_neg h0, if_neg h0]
  have hnum : num ck N (St s k n 0) = some (if c = 0 then (vl 0 (tok T) : Int) else 0, if c = 0 then St s (k' + (tok T).length) n c else St s k' n c) := by
    rw [← hcore]
    unfold num
    rw [a]
    simp only [Option.bind_some]
    cases ht : tok T with
    | nil => exact absurd ht g1
    | cons x r =>
      rw [ht] at g2 g3 g4
      have hx : dgt x = true := List.all_eq_true.1 g2 x (by simp)
      have e2 : idx (x :: r) 0 = some x := rfl
      rw [show ((x :: r) == ([] : List UInt8)) = false from rfl, cond_false, e2]
      simp only [Option.bind_some, digit_eq, hx, Bool.not_true, cond_false]
      rw [show decide (((x :: r).length : Int) > 3) = false from decide_eq_false (by omega), cond_false]
      by_cases hl : 1 < (x :: r).length
      · have hne := g4 hl
        have : ((x.toNat : Int) == 48) = false := beq_eq_false_iff_ne.2 (fun e => hne (by
          have : x.toNat = 48 := by omega
          have : x = 48 := UInt8.toNat_inj.1 (by simpa using this)
          rw [this]; rfl))
        rw [show decide (((x :: r).length : Int) > 1) = true from decide_eq_true (by omega), cond_true, this]
        rfl
      · rw [show decide (((x :: r).length : Int) > 1) = false from decide_eq_false (by omega), cond_false]
        rfl
  rw [hnum]
  by_cases h0 : c = 0
  · exact ⟨k' + (tok T).length, by simp [h0], hJ.1, fun _ => hJ⟩
  · exact ⟨k', by simp [h0], b, fun e => absurd e h0⟩
theorem num_bad {N : Nat} {s : List UInt8} (X : Cx N s) {ck : Int → Option Int} {k : Nat} {n e : Int} {T : List UInt8} (h : J s k T) (hg : e ≠ 0 ∨ ¬ good (tok T)) :
    ∃ k' e', num ck N (St s k n e) = some (0, St s k' n e') ∧ k' ≤ s.length ∧ e' ≠ 0 := by
  obtain ⟨k', a, b, d⟩ := peek_J X (n := n) (e := e) h
  have h3 : ((if e = 0 then (3 : Int) else e) != 0) = true := by split <;> simp_all
  have h3' : (if e = 0 then (3 : Int) else e) ≠ 0 := by split <;> simp_all
  unfold num
  rw [a]
  simp only [Option.bind_some, fail_eq, h3, cond_true]
  cases ht : tok T with
  | nil => exact ⟨k', _, rfl, b, h3'⟩
  | cons x r =>
    have e2 : idx (x :: r) 0 = some x := rfl
    rw [show ((x :: r) == ([] : List UInt8)) = false from rfl, cond_false, e2]
    simp only [Option.bind_some, digit_eq]
    cases hx : dgt x with
    | false => exact ⟨k', _, rfl, b, h3'⟩
    | true =>
      simp only [Bool.not_true, cond_false]
      by_cases hl3 : (x :: r).length ≤ 3
      · rw [show decide (((x :: r).length : Int) > 3) = false from decide_eq_false (by omega), cond_false]
        by_cases hl : 1 < (x :: r).length
        · rw [show decide (((x :: r).length : Int) > 1) = true from decide_eq_true (by omega), cond_true]
          by_cases h48 : x = 48
          · subst h48
            refine ⟨k', _, ?_, b, h3'⟩
            show (some (St s k' n _)).bind _ = _
            simp only [Option.bind_some, h3, cond_true]
          · have : ((x.toNat : Int) == 48) = false := beq_eq_false_iff_ne.2 (fun e => h48 (UInt8.toNat_inj.1 (by show x.toNat = 48; omega)))
            rw [this]
            rcases hg with he | hg
            · refine ⟨k', e, ?_, b, he⟩
              simp only [cond_false, Option.bind_some]
              rw [show (e != 0) = true by simp [he], cond_true]
            · exact absurd ⟨by rw [ht]; simp, by rw [ht]; exact tok_digits ht hx, by rw [ht]; exact hl3, fun _ => by rw [ht]; simpa using h48⟩ hg
        · rw [show decide (((x :: r).length : Int) > 1) = false from decide_eq_false (by omega), cond_false]
          rcases hg with he | hg
          · refine ⟨k', e, ?_, b, he⟩
            rw [show (e != 0) = true by simp [he], cond_true]
          · exact absurd ⟨by rw [ht]; simp, by rw [ht]; exact tok_digits ht hx, by rw [ht]; exact hl3, fun h => absurd (by rw [ht] at h; exact h) hl⟩ hg
      · rw [show decide (((x :: r).length : Int) > 3) = true from decide_eq_true (by omega), cond_true]
        exact ⟨k', _, rfl, b, h3'⟩
/-- A number: refused, or a value that the check allows. -/
theorem num_any {N : Nat} {s : List UInt8} (X : Cx N s) {ck : Int → Option Int} (hck : ∀ v, ∃ c, ck v = some c) {k : Nat} {n e : Int} (hk : k ≤ s.length) :
    ∃ v k' e', num ck N (St s k n e) = some (v, St s k' n e') ∧ k' ≤ s.length ∧ (e' = 0 → e = 0 ∧ ck v = some 0 ∧ 0 ≤ v) := by
  by_cases hg : e ≠ 0 ∨ ¬ good (tok (wsp (s.drop k)))
  · obtain ⟨k', e', a, b, c⟩ := num_bad X (n := n) (J.any hk) hg
    exact ⟨0, k', e', a, b, fun h => absurd h c⟩
  · have he : e = 0 := Classical.byContradiction fun h => hg (.inl h)
    have hgd : good (tok (wsp (s.drop k))) := Classical.byContradiction fun h => hg (.inr h)
    subst he
    obtain ⟨c, hc⟩ := hck (vl 0 (tok (wsp (s.drop k))) : Int)
    obtain ⟨k', a, b, _⟩ := num_good X (n := n) (J.any hk) hgd hc
    refine ⟨_, k', c, a, b, fun h0 => ⟨rfl, ?_, ?_⟩⟩
    · rw [if_pos h0, hc, h0]
    · rw [if_pos h0]; omega
end Go.Proofs.YtbaiahglondepaaGreatDoor
