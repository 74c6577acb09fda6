/- Chapter 44: steps and tokens; program and reference. -/
import Derived.Test.YtmmioinglmeoiaaScn6
import Derived.Test.YtmmioinglmeoiaaExt44s
set_option linter.unusedVariables false
namespace Go.Proofs.Ytmmioinglmeoiaa
open Go.X

def firstRule : List Rule → Str → Option (Rule × Nat)
  | [], _ => none
  | r :: rs, t => match runs r.Items t with | some n => if n = 0 then firstRule rs t else some (r, n) | none => firstRule rs t
theorem firstRule_of : ∀ {rs : List Rule} {t : Str} {r : Rule} {n : Nat}, firstRule rs t = some (r, n) → r ∈ rs ∧ 1 ≤ n ∧ n ≤ t.length := by
  intro rs
  induction rs with
  | nil => intro t r n h; cases h
  | cons q rs ih =>
    intro t r n h
    unfold firstRule at h
    cases hr : runs q.Items t with
    | none =>
      rw [hr] at h
      obtain ⟨h1, h2⟩ := ih h
      exact ⟨List.mem_cons_of_mem _ h1, h2⟩
    | some m =>
      rw [hr] at h
      simp only at h
      split at h
      · obtain ⟨h1, h2⟩ := ih h
        exact ⟨List.mem_cons_of_mem _ h1, h2⟩
      · cases h
        exact ⟨List.mem_cons_self .., by omega, runs_le _ _ _ hr⟩
theorem firstRule_app {rs : List Rule} (more : List Rule) {t : Str} {r : Rule} {n : Nat} (h : firstRule rs t = some (r, n)) : firstRule (rs ++ more) t = some (r, n) := by
  induction rs with
  | nil => cases h
  | cons q rs ih =>
    unfold firstRule at h
    simp only [List.cons_append]
    unfold firstRule
    cases hr : runs q.Items t with
    | none => rw [hr] at h; exact ih h
    | some m =>
      rw [hr] at h
      simp only at h ⊢
      split at h
      · rename_i h0; rw [if_pos h0]; exact ih h
      · rename_i h0; rw [if_neg h0]; exact h
def nextSt (s : List State) (st : Int) (r : Rule) : Int := if r.Next = [] then st else fst s r.Next

/-! ### the lexer -/
def prs : Nat → List State → List (Str × Int)
  | _, [] => []
  | k, x :: s => (x.Name, (k : Int)) :: prs (k + 1) s
theorem prs_app : ∀ (k : Nat) (s : List State) (x : State), prs k (s ++ [x]) = prs k s ++ [(x.Name, ((k + s.length : Nat) : Int))] := by
  intro k s
  induction s generalizing k with
  | nil => intro x; simp [prs]
  | cons y s ih =>
    intro x
    simp only [List.cons_append, prs, ih, List.length_cons]
    rw [show k + 1 + s.length = k + (s.length + 1) by omega]
theorem prs_get : ∀ (k : Nat) (s : List State) (n : Str), mget (prs k s) n = (s.findIdx? (fun y => y.Name == n)).map (fun i => ((k + i : Nat) : Int)) := by
  intro k s
  induction s generalizing k with
  | nil => intro n; rfl
  | cons y s ih =>
    intro n
    unfold mget at ih ⊢
    simp only [prs, List.find?_cons, List.findIdx?_cons]
    by_cases h : y.Name = n
    · subst h; simp
    · have e : (n == y.Name) = false := by simpa using fun h' => h h'.symm
      have e2 : (y.Name == n) = false := by simpa using h
      rw [e, e2]
      simp only [Bool.false_eq_true, if_false, ih, Option.map_map]
      congr 1
      funext i
      simp only [Function.comp]
      omega
theorem prs_key {k : Nat} {s : List State} {n : Str} (h : n ∉ s.map State.Name) : ∀ p ∈ prs k s, p.1 ≠ n := by
  induction s generalizing k with
  | nil => intro p hp; cases hp
  | cons y s ih =>
    intro p hp
    simp only [List.map_cons, List.mem_cons, not_or] at h
    rcases List.mem_cons.1 hp with rfl | hp
    · exact fun e => h.1 e.symm
    · exact ih h.2 p hp
theorem prs_len : ∀ (k : Nat) (s : List State), (prs k s).length = s.length := by
  intro k s
  induction s generalizing k with
  | nil => rfl
  | cons y s ih => simp [prs, ih]
def ltab (s : List State) : List (List (List (Option (List Bool)))) := s.map fun x => x.Rules.map fun r => r.Items.map bitsOf
theorem mput_new2 {l : List (Str × Int)} {n : Str} {v : Int} (h : ∀ p ∈ l, p.1 ≠ n) : mput l n v = l ++ [(n, v)] := by
  induction l with
  | nil => rfl
  | cons p l ih =>
    obtain ⟨a, b⟩ := p
    have e : (n == a) = false := by simpa using fun h' => h (a, b) (List.mem_cons_self ..) h'.symm
    unfold mput
    rw [e, ih fun q hq => h q (List.mem_cons_of_mem _ hq)]
    rfl
theorem lexerOf_eq {N : Nat} {s : List State} (hs : Sz N s) (hv : Vs s) (hN : 300 ≤ N) : scan_lexerOf N s = some (Lexer.mk s (ltab s) (prs 0 s)) := by
  unfold scan_lexerOf
  refine (iter_atB (fun k : Nat => ((k : Int), Lexer.mk s (ltab (s.take k)) (prs 0 (s.take k)))) s.length (Lexer.mk s (ltab s) (prs 0 s)) rfl hs.1 (fun k hk => ?_) ?_).trans rfl
  · obtain ⟨x, hx⟩ := at_lt hk
    have hm := List.mem_of_getElem? hx
    have hxe : s[k] = x := by rw [List.getElem?_eq_getElem hk] at hx; exact Option.some.inj hx
    have hl := hv.len
    have hr := hv.rules x hm
    have hnot : x.Name ∉ (s.take k).map State.Name := ((A1.take hx).1 ((Vs_iff.1 hv).2.1.sub (k + 1))).2.2
    simp only [scan_lexerOf_b1, dk hk, cond_true, ixg hx, Option.bind_some]
    have hset : mset (prs 0 (s.take k)) x.Name (k : Int) = some (prs 0 (s.take (k + 1))) := by
      unfold mset
      rw [if_pos (by rw [prs_len]; unfold LIM; simp; omega), mput_new2 (prs_key hnot), ← take1 hx, prs_app]
      rw [show 0 + (s.take k).length = k by simp; omega]
    rw [hset]
    simp only [Option.bind_some]
    have hrow : iter (fun st : List (List (Option (List Bool))) × Int => scan_lexerOf_b2 N x st.1 st.2) N ([], 0) = some (x.Rules.map fun r => r.Items.map bitsOf) := by
      refine iter_at (fun j : Nat => ((x.Rules.take j).map (fun r => r.Items.map bitsOf), (j : Int))) x.Rules.length _ rfl (fun j hj => ?_) ?_ N (hs.2 x hm).2.1
      · obtain ⟨r, hr'⟩ := at_lt hj
        have hrm := List.mem_of_getElem? hr'
        have hi := (hv.rl x hm r hrm).1.2.1
        simp only [scan_lexerOf_b2, dk hj, cond_true, ixg hr', Option.bind_some]
        rw [scan_classes_eq ((hs.2 x hm).2.2 r hrm).2.2 hN (by omega)]
        simp only [Option.bind_some]
        rw [app1 (by simp; omega), ← take1 hr']
        simp
      · simp [scan_lexerOf_b2]
    rw [hrow]
    simp only [Option.bind_some]
    rw [app1 (by simp [ltab]; omega), ← take1 hx]
    simp [ltab]
  · simp [scan_lexerOf_b1]
theorem states_get {s : List State} {n : Str} (h : n ∈ s.map State.Name) : (mget (prs 0 s) n).getD 0 = fst s n := by
  rw [prs_get]
  unfold fst
  cases hf : s.findIdx? (fun y => y.Name == n) with
  | none =>
    obtain ⟨y, hy, e⟩ := List.mem_map.1 h
    have := List.findIdx?_eq_none_iff.1 hf y hy
    simp [e] at this
  | some i => simp

/-! ### one step -/
/-- The token at a place, and the next state. -/
def stepN (s : List State) (st : Nat) (t : Str) (at' : Nat) : Option (Token × Int) :=
  match s[st]? with
  | none => none
  | some x => match firstRule x.Rules (t.drop at') with
    | some (r, n) => some (Token.mk r.Kind ((t.drop at').take n) at', nextSt s st r)
    | none => none
theorem ltab_at {s : List State} {st : Nat} {x : State} (h : s[st]? = some x) : idx (ltab s) (st : Int) = some (x.Rules.map fun r => r.Items.map bitsOf) := by
  rw [ix]; unfold ltab; rw [List.getElem?_map, h]; rfl
theorem neE (w : Str) : (w != ([] : Str)) = !decide (w = []) := by by_cases h : w = [] <;> simp [h]
theorem lexer_step_eq {N : Nat} {s : List State} {t : Str} {st p : Nat} (hs : Sz N s) (hv : Vs s) (hst : st < s.length) (hp : p ≤ t.length) (ht : t.length ≤ 1000000) (hN : 300 ≤ N) (hN2 : t.length + 1 ≤ N) :
    scan_lexer_step N st t p (Lexer.mk s (ltab s) (prs 0 s)) = some (match stepN s st t p with | some (k, n) => (k, n, true) | none => (Token.mk [] [] 0, 0, false)) := by
  obtain ⟨x, hx⟩ := at_lt hst
  have hm := List.mem_of_getElem? hx
  unfold scan_lexer_step
  simp only [ixg hx, Option.bind_some]
  have key : ∀ (j k M : Nat), k + j = x.Rules.length → j < M → ((iter (fun a : Int × Int => scan_lexer_step_b1 N t p (Lexer.mk s (ltab s) (prs 0 s)) x a.1 a.2) M ((st : Int), (k : Int))).bind fun o24 =>
      Sum.elim (fun _o24 : Unit => some ((Token.mk ([]) ([]) 0), (0 : Int), false)) (fun o24 : Token × Int × Bool => some o24) o24) = some (match firstRule (x.Rules.drop k) (t.drop p) with | some (r, n) => (Token.mk r.Kind ((t.drop p).take n) p, nextSt s st r, true) | none => (Token.mk [] [] 0, 0, false)) := by
    intro j
    induction j with
    | zero =>
      intro k M hk hM
      obtain ⟨M, rfl⟩ : ∃ M', M = M' + 1 := ⟨M - 1, by omega⟩
      obtain rfl : k = x.Rules.length := by omega
      have hb : scan_lexer_step_b1 N t p (Lexer.mk s (ltab s) (prs 0 s)) x st x.Rules.length = some (.inr (.inl ())) := by simp only [scan_lexer_step_b1, dn, cond_false]
      simp only [iter, hb, List.drop_length, firstRule]
      rfl
    | succ j ih =>
      intro k M hk hM
      obtain ⟨M, rfl⟩ : ∃ M', M = M' + 1 := ⟨M - 1, by omega⟩
      have hkl : k < x.Rules.length := by omega
      obtain ⟨r, hr⟩ := at_lt hkl
      have hre : x.Rules[k] = r := by rw [List.getElem?_eq_getElem hkl] at hr; exact Option.some.inj hr
      have hrm := List.mem_of_getElem? hr
      have hz := ((hs.2 x hm).2.2 r hrm).2.2
      have hrow : idx (x.Rules.map fun r => r.Items.map bitsOf) (k : Int) = some (r.Items.map bitsOf) := by rw [ix, List.getElem?_map, hr]; rfl
      have hmt := scan_match_eq (N := N) (l := r.Items) (s := t.drop p) hz.1 (by simp; omega) (by simp; omega)
      have hnx := (hv.rl x hm r hrm).2
      rw [List.drop_eq_getElem_cons hkl, hre]
      unfold firstRule
      have hgo : scan_lexer_step_b1 N t p (Lexer.mk s (ltab s) (prs 0 s)) x st k = some (match runs r.Items (t.drop p) with | some n => if n = 0 then .inl ((st : Int), ((k + 1 : Nat) : Int)) else .inr (.inr (Token.mk r.Kind ((t.drop p).take n) p, nextSt s st r, true)) | none => .inl ((st : Int), ((k + 1 : Nat) : Int))) := by
        simp only [scan_lexer_step_b1, dk hkl, cond_true, ixg hr, Option.bind_some, ltab_at hx, hrow, slc_tail hp, hmt]
        cases hru : runs r.Items (t.drop p) with
        | none => rfl
        | some n =>
          have hle := runs_le _ _ _ hru
          simp only [List.length_drop] at hle
          simp only [Bool.not_true, cond_false]
          by_cases h0 : n = 0
          · subst h0; rfl
          · have e : (((n : Int)) == 0) = false := by rw [beq_eq_false_iff_ne]; omega
            rw [e, if_neg h0, neE]
            simp only [cond_false]
            rw [show (p : Int) + (n : Int) = ((p + n : Nat) : Int) by omega, wrapN (by omega), show ((p + n : Nat) : Int) = (p : Int) + (n : Int) by omega, slc_mid (by omega)]
            unfold nextSt
            by_cases h1 : r.Next = []
            · simp [h1]
            · have := states_get (hnx.resolve_left h1)
              simp [h1, this]
      cases hru : runs r.Items (t.drop p) with
      | none =>
        rw [hru] at hgo
        simp only [iter, hgo]
        exact ih (k + 1) M (by omega) (by omega)
      | some n =>
        rw [hru] at hgo
        by_cases h0 : n = 0
        · simp only [if_pos h0] at hgo ⊢
          simp only [iter, hgo]
          exact ih (k + 1) M (by omega) (by omega)
        · simp only [if_neg h0] at hgo ⊢
          simp only [iter, hgo]
          rfl
  have := key x.Rules.length 0 N (by omega) (hs.2 x hm).2.1
  refine this.trans ?_
  unfold stepN
  rw [hx, List.drop_zero]
  simp only
  cases firstRule x.Rules (t.drop p) with
  | none => rfl
  | some q => rfl

def TLe (s : List State) : Prop := ∀ x ∈ s, ∀ r ∈ x.Rules, ∀ y ∈ r.Items, y.Text.length ≤ 200000000000000
theorem ScOk.tle {s : List State} (h : ScOk s) : TLe s := fun x hx r hr y hy => by
  have := (((h.2 x hx).2.2 r hr).2.1.2 y hy).1
  unfold reachBytes at this
  omega
theorem ref_rules_eq {N : Nat} {s : List State} {t : Str} {st p : Nat} (hs : Sz N s) (hx' : TLe s) (hst : st < s.length) (hp : p ≤ t.length) (ht : t.length ≤ 1000000) (hN2 : t.length + 1 ≤ N) :
    ((iter (fun a : Int × Int => calqueref44_Step_b1 N s t p a.1 a.2) N ((st : Int), 0)).bind fun o12 =>
              Sum.elim (fun _o12 : Unit => some ((Token.mk ([]) ([]) 0), (0 : Int), (3 : Int))) (fun o12 : Token × Int × Int => some o12) o12) = some (match stepN s st t p with | some (k, n) => (k, n, 0) | none => (Token.mk [] [] 0, 0, 3)) := by
  obtain ⟨x, hx⟩ := at_lt hst
  have hm := List.mem_of_getElem? hx
  have key : ∀ (j k M : Nat), k + j = x.Rules.length → j < M → ((iter (fun a : Int × Int => calqueref44_Step_b1 N s t p a.1 a.2) M ((st : Int), (k : Int))).bind fun o12 =>
      Sum.elim (fun _o12 : Unit => some ((Token.mk ([]) ([]) 0), (0 : Int), (3 : Int))) (fun o12 : Token × Int × Int => some o12) o12) = some (match firstRule (x.Rules.drop k) (t.drop p) with | some (r, n) => (Token.mk r.Kind ((t.drop p).take n) p, nextSt s st r, 0) | none => (Token.mk [] [] 0, 0, 3)) := by
    intro j
    induction j with
    | zero =>
      intro k M hk hM
      obtain ⟨M, rfl⟩ : ∃ M', M = M' + 1 := ⟨M - 1, by omega⟩
      obtain rfl : k = x.Rules.length := by omega
      have hb : calqueref44_Step_b1 N s t p st x.Rules.length = some (.inr (.inl ())) := by simp only [calqueref44_Step_b1, ixg hx, Option.bind_some, dn, cond_false]
      simp only [iter, hb, List.drop_length, firstRule]
      rfl
    | succ j ih =>
      intro k M hk hM
      obtain ⟨M, rfl⟩ : ∃ M', M = M' + 1 := ⟨M - 1, by omega⟩
      have hkl : k < x.Rules.length := by omega
      obtain ⟨r, hr⟩ := at_lt hkl
      have hre : x.Rules[k] = r := by rw [List.getElem?_eq_getElem hkl] at hr; exact Option.some.inj hr
      have hrm := List.mem_of_getElem? hr
      have hz := ((hs.2 x hm).2.2 r hrm).2.2
      have hmt := ref_Match_eq (N := N) hz (hx' x hm r hrm) hp ht hN2
      rw [List.drop_eq_getElem_cons hkl, hre]
      unfold firstRule
      have hgo : calqueref44_Step_b1 N s t p st k = some (match runs r.Items (t.drop p) with | some n => if n = 0 then .inl ((st : Int), ((k + 1 : Nat) : Int)) else .inr (.inr (Token.mk r.Kind ((t.drop p).take n) p, nextSt s st r, 0)) | none => .inl ((st : Int), ((k + 1 : Nat) : Int))) := by
        simp only [calqueref44_Step_b1, ixg hx, Option.bind_some, dk hkl, cond_true, ixg hr, hmt, Index_eq _ hs.1]
        cases hru : runs r.Items (t.drop p) with
        | none => rfl
        | some n =>
          have hle := runs_le _ _ _ hru
          simp only [List.length_drop] at hle
          simp only [cond_true]
          by_cases h0 : n = 0
          · subst h0; rfl
          · rw [decide_eq_true (show (n : Int) > 0 by omega), if_neg h0, neE]
            simp only [cond_true]
            rw [show (p : Int) + (n : Int) = ((p + n : Nat) : Int) by omega, wrapN (by omega), show ((p + n : Nat) : Int) = (p : Int) + (n : Int) by omega, slc_mid (by omega)]
            unfold nextSt
            by_cases h1 : r.Next = []
            · simp [h1]
            · simp [h1]
      cases hru : runs r.Items (t.drop p) with
      | none =>
        rw [hru] at hgo
        simp only [iter, hgo]
        exact ih (k + 1) M (by omega) (by omega)
      | some n =>
        rw [hru] at hgo
        by_cases h0 : n = 0
        · simp only [if_pos h0] at hgo ⊢
          simp only [iter, hgo]
          exact ih (k + 1) M (by omega) (by omega)
        · simp only [if_neg h0] at hgo ⊢
          simp only [iter, hgo]
          rfl
  have := key x.Rules.length 0 N (by omega) (hs.2 x hm).2.1
  refine this.trans ?_
  unfold stepN
  rw [hx, List.drop_zero]
  simp only
  cases firstRule x.Rules (t.drop p) with
  | none => rfl
  | some q => rfl

/-- What both Steps say of a valid script. -/
def stepR (s : List State) (st : Int) (t : Str) (p : Int) : Token × Int × Int :=
  if st < 0 ∨ st ≥ (s.length : Int) ∨ p < 0 ∨ p > (t.length : Int) then (Token.mk [] [] 0, 0, 2) else if p = (t.length : Int) then (Token.mk [] [] 0, 0, 8) else match stepN s st.toNat t p.toNat with | some (k, n) => (k, n, 0) | none => (Token.mk [] [] 0, 0, 3)
theorem scan_Step_ok {N : Nat} {s : List State} {t : Str} {st p : Int} (hs : Sz N s) (hb : Sb s) (hv : Vl s) (ht : t.length ≤ 1000000) (hN : 300 ≤ N) (hN2 : t.length + 1 ≤ N) :
    scan_Step N s st t p = some (stepR s st t p) := by
  unfold scan_Step
  rcases (scan_Valid_eq hs hb (by omega)).cases with ⟨h, _⟩ | ⟨_, h⟩
  rotate_left
  · exact absurd hv h
  rw [h]
  simp only [Option.bind_some, Bool.not_true, cond_false]
  by_cases g1 : st < 0
  · rw [decide_eq_true g1]; unfold stepR; rw [if_pos (.inl g1)]; rfl
  rw [decide_eq_false g1]
  by_cases g2 : st ≥ (s.length : Int)
  · rw [decide_eq_true g2]; unfold stepR; rw [if_pos (.inr (.inl g2))]; rfl
  rw [decide_eq_false g2]
  by_cases g3 : p < 0
  · rw [decide_eq_true g3]; unfold stepR; rw [if_pos (.inr (.inr (.inl g3)))]; rfl
  rw [decide_eq_false g3]
  by_cases g4 : p > (t.length : Int)
  · rw [decide_eq_true g4]; unfold stepR; rw [if_pos (.inr (.inr (.inr g4)))]; rfl
  rw [decide_eq_false g4]
  unfold stepR
  rw [if_neg (by omega), beqd]
  by_cases g5 : p = (t.length : Int)
  · rw [if_pos g5, decide_eq_true g5]; rfl
  rw [if_neg g5, decide_eq_false g5]
  obtain ⟨a, rfl⟩ : ∃ a : Nat, st = (a : Int) := ⟨st.toNat, by omega⟩
  obtain ⟨b, rfl⟩ : ∃ b : Nat, p = (b : Int) := ⟨p.toNat, by omega⟩
  simp only [cond_false, lexerOf_eq hs hv.1 hN, Option.bind_some, lexer_step_eq hs hv.1 (show a < s.length by omega) (show b ≤ t.length by omega) ht hN hN2, Int.toNat_natCast]
  cases stepN s a t b with
  | none => rfl
  | some q => rfl
theorem ref_Step_ok {N : Nat} {s : List State} {t : Str} {st p : Int} (hs : Sz N s) (hb : Sb s) (hx : TLe s) (hv : Vl s) (ht : t.length ≤ 1000000) (hN : 300 ≤ N) (hN2 : t.length + 1 ≤ N) :
    calqueref44_Step N s st t p = some (stepR s st t p) := by
  unfold calqueref44_Step
  rcases (ref_Valid_eq hs hb (by omega)).cases with ⟨h, _⟩ | ⟨_, h⟩
  rotate_left
  · exact absurd hv h
  rw [h]
  simp only [Option.bind_some, Bool.not_true, cond_false]
  by_cases g1 : st < 0
  · rw [decide_eq_true g1]; unfold stepR; rw [if_pos (.inl g1)]; rfl
  rw [decide_eq_false g1]
  by_cases g2 : st ≥ (s.length : Int)
  · rw [decide_eq_true g2]; unfold stepR; rw [if_pos (.inr (.inl g2))]; rfl
  rw [decide_eq_false g2]
  by_cases g3 : p < 0
  · rw [decide_eq_true g3]; unfold stepR; rw [if_pos (.inr (.inr (.inl g3)))]; rfl
  rw [decide_eq_false g3]
  by_cases g4 : p > (t.length : Int)
  · rw [decide_eq_true g4]; unfold stepR; rw [if_pos (.inr (.inr (.inr g4)))]; rfl
  rw [decide_eq_false g4]
  unfold stepR
  rw [if_neg (by omega), beqd]
  by_cases g5 : p = (t.length : Int)
  · rw [if_pos g5, decide_eq_true g5]; rfl
  rw [if_neg g5, decide_eq_false g5]
  obtain ⟨a, rfl⟩ : ∃ a : Nat, st = (a : Int) := ⟨st.toNat, by omega⟩
  obtain ⟨b, rfl⟩ : ∃ b : Nat, p = (b : Int) := ⟨p.toNat, by omega⟩
  simp only [cond_false, Int.toNat_natCast]
  exact ref_rules_eq hs hx (by omega) (by omega) ht hN2
theorem scan_Step_no {N : Nat} {s : List State} {t : Str} {st p : Int} (hs : Sz N s) (hb : Sb s) (hv : ¬Vl s) (hN : 300 ≤ N) : scan_Step N s st t p = some (Token.mk [] [] 0, 0, 1) := by
  unfold scan_Step
  rcases (scan_Valid_eq hs hb (by omega)).cases with ⟨_, h⟩ | ⟨h, _⟩
  · exact absurd h hv
  rw [h]; rfl
theorem ref_Step_no {N : Nat} {s : List State} {t : Str} {st p : Int} (hs : Sz N s) (hb : Sb s) (hv : ¬Vl s) (hN : 300 ≤ N) : calqueref44_Step N s st t p = some (Token.mk [] [] 0, 0, 1) := by
  unfold calqueref44_Step
  rcases (ref_Valid_eq hs hb (by omega)).cases with ⟨_, h⟩ | ⟨h, _⟩
  · exact absurd h hv
  rw [h]; rfl

/-! ### tokens -/
def tks (s : List State) (t : Str) : Nat → Nat → Nat → (Nat ⊕ List Token)
  | 0, _, _ => .inr []
  | f + 1, p, st => if t.length ≤ p then .inr [] else match stepN s st t p with
    | some (k, n) => (match tks s t f (p + k.Text.length) n.toNat with | .inr l => .inr (k :: l) | .inl e => .inl e)
    | none => .inl p
theorem fst_range {s : List State} {n : Str} (h : n ∈ s.map State.Name) : 0 ≤ fst s n ∧ fst s n < (s.length : Int) := by
  have h1 : ¬fst s n < 0 := fun g => fst_mem.1 g h
  refine ⟨by omega, ?_⟩
  unfold fst at h1 ⊢
  cases hf : s.findIdx? (fun y => y.Name == n) with
  | none => rw [hf] at h1; simp only at h1 ⊢; omega
  | some k =>
    obtain ⟨hk, _⟩ := List.findIdx?_eq_some_iff_getElem.1 hf
    simp only; omega
theorem stepN_of {s : List State} (hv : Vs s) {st : Nat} {t : Str} {p : Nat} {k : Token} {n : Int} (h : stepN s st t p = some (k, n)) :
    k.From = (p : Int) ∧ 1 ≤ k.Text.length ∧ p + k.Text.length ≤ t.length ∧ k.Text = (t.drop p).take k.Text.length ∧ 0 ≤ n ∧ n < (s.length : Int) := by
  unfold stepN at h
  cases hx : s[st]? with
  | none => rw [hx] at h; cases h
  | some x =>
    rw [hx] at h
    simp only at h
    cases hf : firstRule x.Rules (t.drop p) with
    | none => rw [hf] at h; cases h
    | some q =>
      obtain ⟨r, m⟩ := q
      rw [hf] at h
      simp only [Option.some.injEq, Prod.mk.injEq] at h
      obtain ⟨rfl, rfl⟩ := h
      obtain ⟨h1, h2, h3⟩ := firstRule_of hf
      simp only [List.length_drop] at h3
      have hl : ((t.drop p).take m).length = m := by simp; omega
      have hm := List.mem_of_getElem? hx
      simp only [hl]
      refine ⟨trivial, h2, by omega, trivial, ?_⟩
      unfold nextSt
      split
      · have := getlt hx; omega
      · rename_i h0
        exact fst_range ((hv.rl x hm r h1).2.resolve_left h0)
theorem tks_eq {s : List State} {t : Str} {N : Nat} (hv : Vs s) (ht : t.length ≤ 1000000) (body : List Token × Int × Int → Option ((List Token × Int × Int) ⊕ (List Token ⊕ (List Token × Int × Int))))
    (h1 : ∀ (l : List Token) (p st : Nat), p < t.length → st < s.length → l.length ≤ p → body (l, (p : Int), (st : Int)) = some (match stepN s st t p with | some (k, n) => .inl (l ++ [k], ((p + k.Text.length : Nat) : Int), n) | none => .inr (.inr ([], (p : Int), 3))))
    (h2 : ∀ (l : List Token) (st : Int), body (l, (t.length : Int), st) = some (.inr (.inl l))) (h0 : 0 < s.length) (hN : t.length + 1 ≤ N) :
    ((iter body N ([], 0, 0)).bind fun o : List Token ⊕ (List Token × Int × Int) => Sum.elim (fun o => some (o, (0 : Int), (0 : Int))) (fun o => some o) o) = some (match tks s t (t.length + 1) 0 0 with | .inr l => (l, 0, 0) | .inl e => ([], (e : Int), 3)) := by
  have key : ∀ (f M p st : Nat) (l : List Token), t.length - p < f → f ≤ M → p ≤ t.length → st < s.length → l.length ≤ p → ((iter body M (l, (p : Int), (st : Int))).bind fun o : List Token ⊕ (List Token × Int × Int) => Sum.elim (fun o => some (o, (0 : Int), (0 : Int))) (fun o => some o) o) = some (match tks s t f p st with | .inr l' => (l ++ l', 0, 0) | .inl e => ([], (e : Int), 3)) := by
    intro f
    induction f with
    | zero => intro M p st l h; omega
    | succ f ih =>
      intro M p st l hf hM hp hst hl
      obtain ⟨M, rfl⟩ : ∃ M', M = M' + 1 := ⟨M - 1, by omega⟩
      unfold tks
      by_cases he : t.length ≤ p
      · obtain rfl : p = t.length := by omega
        rw [if_pos he]
        simp only [iter, h2, List.append_nil]
        rfl
      · rw [if_neg he]
        have hb := h1 l p st (by omega) hst hl
        cases hq : stepN s st t p with
        | none =>
          rw [hq] at hb
          simp only [iter, hb]
          rfl
        | some q =>
          obtain ⟨k, n⟩ := q
          rw [hq] at hb
          obtain ⟨_, g2, g3, _, g5, g6⟩ := stepN_of hv hq
          obtain ⟨n, rfl⟩ : ∃ m : Nat, n = (m : Int) := ⟨n.toNat, by omega⟩
          simp only at hb ⊢
          simp only [iter, hb, Int.toNat_natCast]
          have := ih M (p + k.Text.length) n (l ++ [k]) (by omega) (by omega) (by omega) (by omega) (by simp; omega)
          rw [this]
          cases tks s t f (p + k.Text.length) n with
          | inl e => rfl
          | inr l' => simp
  have := key (t.length + 1) N 0 0 [] (by omega) hN (by omega) h0 (by simp)
  simpa using this
/-- What both say of the tokens of a string. -/
def tokR (s : List State) (t : Str) : List Token × Int × Int := match tks s t (t.length + 1) 0 0 with | .inr l => (l, 0, 0) | .inl e => ([], (e : Int), 3)
theorem scan_Tokens_ok {N : Nat} {s : List State} {t : Str} (hs : Sz N s) (hb : Sb s) (hv : Vl s) (ht : t.length ≤ 10000) (hN : 300 ≤ N) (hN2 : t.length + 1 ≤ N) :
    scan_Tokens N s t = some (tokR s t) := by
  unfold scan_Tokens
  rcases (scan_Valid_eq hs hb (by omega)).cases with ⟨h, _⟩ | ⟨_, h⟩
  rotate_left
  · exact absurd hv h
  rw [h]
  simp only [Option.bind_some, Bool.not_true, cond_false]
  rw [decide_eq_false (by omega)]
  simp only [cond_false, lexerOf_eq hs hv.1 hN, Option.bind_some]
  refine tks_eq hv.1 (by omega) _ (fun l p st hp hst hl => ?_) (fun l st => ?_) (by have := hv.1.len; omega) hN2
  · simp only [scan_Tokens_b1, dk hp, cond_true, lexer_step_eq hs hv.1 hst (by omega : p ≤ t.length) (by omega : t.length ≤ 1000000) hN hN2, Option.bind_some]
    cases hq : stepN s st t p with
    | none => rfl
    | some q =>
      obtain ⟨k, n⟩ := q
      obtain ⟨_, g2, g3, _⟩ := stepN_of hv.1 hq
      simp only [Bool.not_true, cond_false]
      rw [app1 (by simp; omega), show (p : Int) + (k.Text.length : Int) = ((p + k.Text.length : Nat) : Int) by omega, wrapN (by omega)]
      rfl
  · simp only [scan_Tokens_b1, dn, cond_false]
theorem ref_Tokens_ok {N : Nat} {s : List State} {t : Str} (hs : Sz N s) (hb : Sb s) (hx : TLe s) (hv : Vl s) (ht : t.length ≤ 10000) (hN : 300 ≤ N) (hN2 : t.length + 1 ≤ N) :
    calqueref44_Tokens N s t = some (tokR s t) := by
  unfold calqueref44_Tokens
  rcases (ref_Valid_eq hs hb (by omega)).cases with ⟨h, _⟩ | ⟨_, h⟩
  rotate_left
  · exact absurd hv h
  rw [h]
  simp only [Option.bind_some, Bool.not_true, cond_false]
  rw [decide_eq_false (by omega)]
  simp only [cond_false]
  refine tks_eq hv.1 (by omega) _ (fun l p st hp hst hl => ?_) (fun l st => ?_) (by have := hv.1.len; omega) hN2
  · simp only [calqueref44_Tokens_b1, dk hp, cond_true, ref_Step_ok hs hb hx hv (by omega : t.length ≤ 1000000) hN hN2, Option.bind_some]
    have e : stepR s (st : Int) t (p : Int) = match stepN s st t p with | some (k, n) => (k, n, 0) | none => (Token.mk [] [] 0, 0, 3) := by
      unfold stepR
      rw [if_neg (by omega), if_neg (by omega)]
      simp
    rw [e]
    cases hq : stepN s st t p with
    | none => rfl
    | some q =>
      obtain ⟨k, n⟩ := q
      obtain ⟨_, g2, g3, _⟩ := stepN_of hv.1 hq
      simp only
      rw [app1 (by simp; omega), show (p : Int) + (k.Text.length : Int) = ((p + k.Text.length : Nat) : Int) by omega, wrapN (by omega)]
      rfl
  · simp only [calqueref44_Tokens_b1, dn, cond_false]
theorem scan_Tokens_no {N : Nat} {s : List State} {t : Str} (hs : Sz N s) (hb : Sb s) (hv : ¬Vl s) (hN : 300 ≤ N) : scan_Tokens N s t = some ([], 0, 1) := by
  unfold scan_Tokens
  rcases (scan_Valid_eq hs hb (by omega)).cases with ⟨_, h⟩ | ⟨h, _⟩
  · exact absurd h hv
  rw [h]; rfl
theorem ref_Tokens_no {N : Nat} {s : List State} {t : Str} (hs : Sz N s) (hb : Sb s) (hv : ¬Vl s) (hN : 300 ≤ N) : calqueref44_Tokens N s t = some ([], 0, 1) := by
  unfold calqueref44_Tokens
  rcases (ref_Valid_eq hs hb (by omega)).cases with ⟨_, h⟩ | ⟨h, _⟩
  · exact absurd h hv
  rw [h]; rfl
end Go.Proofs.Ytmmioinglmeoiaa
