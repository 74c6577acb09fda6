/- Chapter 44: both validities are the same. -/
import Derived.Test.YtmmioinglmeoiaaScn3
set_option linter.unusedVariables false
namespace Go.Proofs.Ytmmioinglmeoiaa
open Go.X

/-- The test tells whether P holds. -/
def Tells (o : Option Bool) (P : Prop) : Prop := ∃ b, o = some b ∧ (b = true ↔ P)
theorem Tells.yes {o : Option Bool} {P : Prop} (h : o = some true) (p : P) : Tells o P := ⟨true, h, by simp [p]⟩
theorem Tells.no {o : Option Bool} {P : Prop} (h : o = some false) (p : ¬P) : Tells o P := ⟨false, h, by simp [p]⟩
theorem Tells.iff {o : Option Bool} {P Q : Prop} (h : Tells o P) (e : P ↔ Q) : Tells o Q := by obtain ⟨b, h1, h2⟩ := h; exact ⟨b, h1, h2.trans e⟩
theorem Tells.same {o o' : Option Bool} {P : Prop} (h : Tells o P) (h' : Tells o' P) : o = o' := by
  obtain ⟨b, h1, h2⟩ := h
  obtain ⟨b', h3, h4⟩ := h'
  rw [h1, h3]
  cases b <;> cases b' <;> simp_all
theorem Tells.dec {P : Prop} [Decidable P] : Tells (some (decide P)) P := ⟨_, rfl, by simp⟩
theorem Tells.cases {o : Option Bool} {P : Prop} (h : Tells o P) : (o = some true ∧ P) ∨ (o = some false ∧ ¬P) := by
  obtain ⟨b, h1, h2⟩ := h
  cases b with
  | true => exact .inl ⟨h1, h2.1 rfl⟩
  | false => exact .inr ⟨h1, fun p => by simpa using h2.2 p⟩

theorem iter_allP {α : Type} {body : Int → Option (Int ⊕ (Unit ⊕ Bool))} (P : α → Prop) (xs : List α) {N : Nat} (hN : xs.length < N)
    (h1 : ∀ (k : Nat) x, xs[k]? = some x → (P x ∧ body k = some (.inl ((k : Int) + 1))) ∨ (¬P x ∧ body k = some (.inr (.inr false)))) (h2 : body xs.length = some (.inr (.inl ()))) :
    (iter body N 0 = some (.inl ()) ∧ ∀ x ∈ xs, P x) ∨ (iter body N 0 = some (.inr false) ∧ ¬∀ x ∈ xs, P x) := by
  classical
  have h := iter_allL (body := body) (fun x => decide (P x)) xs (fun k x hx => by
    rcases h1 k x hx with ⟨p, h⟩ | ⟨p, h⟩
    · rw [h]; simp [p]
    · rw [h]; simp [p]) h2 N hN
  by_cases hp : ∀ x ∈ xs, P x
  · refine .inl ⟨?_, hp⟩
    rw [h, if_pos (by simpa using hp)]
  · refine .inr ⟨?_, hp⟩
    rw [h, if_neg (by simpa using hp)]
theorem iter_indE {σ β : Type} {body : σ → Option (σ ⊕ β)} (I : Nat → σ → Prop) (n : Nat) (Q : β → Prop) (hs : ∀ i s, i < n → I i s → (∃ s', body s = some (.inl s') ∧ I (i + 1) s') ∨ ∃ b, body s = some (.inr b) ∧ Q b) (hd : ∀ s, I n s → ∃ b, body s = some (.inr b) ∧ Q b) :
    ∀ N s, n < N → I 0 s → ∃ b, iter body N s = some b ∧ Q b := by
  have key : ∀ j k N s, k + j = n → j < N → I k s → ∃ b, iter body N s = some b ∧ Q b := by
    intro j
    induction j with
    | zero =>
      intro k N s hk hN hI
      obtain ⟨N, rfl⟩ : ∃ M, N = M + 1 := ⟨N - 1, by omega⟩
      have : k = n := by omega
      subst this
      obtain ⟨b, h1, h2⟩ := hd s hI
      exact ⟨b, by simp only [iter, h1], h2⟩
    | succ j ih =>
      intro k N s hk hN hI
      obtain ⟨N, rfl⟩ : ∃ M, N = M + 1 := ⟨N - 1, by omega⟩
      rcases hs k s (by omega) hI with ⟨s', h1, h2⟩ | ⟨b, h1, h2⟩
      · simp only [iter, h1]
        exact ih (k + 1) N s' (by omega) (by omega) h2
      · exact ⟨b, by simp only [iter, h1], h2⟩
  exact fun N s hN hI => key n 0 N s (by omega) hN hI
theorem idxf {α : Type} {body : Int → Option (Int ⊕ (Unit ⊕ Int))} (xs : List α) (p : α → Bool) {N : Nat} (hN : xs.length < N)
    (h1 : ∀ (k : Nat) x, xs[k]? = some x → body k = some (if p x then .inr (.inr k) else .inl ((k : Int) + 1))) (h2 : body xs.length = some (.inr (.inl ()))) :
    ((iter body N 0).bind fun o => Sum.elim (fun _ => some (-1 : Int)) (fun o => some o) o) = some (match xs.findIdx? p with | some k => (k : Int) | none => -1) := by
  rw [iter_find xs p h1 h2 N hN]; exact find_any xs p

/-! ### words -/
theorem word_end {w : Str} : Sum.elim (fun _ : Unit => bif (decide ((w.length : Int) ≥ 1)) then some (decide ((w.length : Int) ≤ 16)) else some false) (fun o2 : Bool => some o2) (if w.all (fun c => decide (97 ≤ c.toNat ∧ c.toNat ≤ 122)) then .inl () else .inr false) = some (word w) := by
  unfold word
  by_cases h : w.all (fun c => decide (97 ≤ c.toNat ∧ c.toNat ≤ 122)) = true
  · rw [if_pos h, h]
    simp only [Sum.elim_inl, Bool.true_and]
    by_cases h1 : 1 ≤ w.length
    · rw [decide_eq_true (show (w.length : Int) ≥ 1 by omega), decide_eq_true h1, cond_true, Bool.true_and]
      congr 1
      exact decide_eq_decide.2 (by omega)
    · rw [decide_eq_false (show ¬(w.length : Int) ≥ 1 by omega), decide_eq_false h1]; rfl
  · rw [if_neg h]
    simp only [Bool.not_eq_true] at h
    rw [h]; rfl
theorem word_step {w : Str} {k : Nat} {c : UInt8} (hc : w[k]? = some c) : (bif (decide ((k : Int) < (w.length : Int))) then
    (idx w k).bind fun c7 =>
    bif (decide ((c7.toNat : Int) < 97)) then
      some (.inr (.inr false))
    else
      (idx w k).bind fun c10 =>
      bif (decide ((c10.toNat : Int) > 122)) then
        some (.inr (.inr false))
      else
        some (.inl ((k : Int) + 1))
  else
    some (.inr (.inl ())) : Option (Int ⊕ (Unit ⊕ Bool))) = some (if decide (97 ≤ c.toNat ∧ c.toNat ≤ 122) then .inl ((k : Int) + 1) else .inr (.inr false)) := by
  simp only [dk (getlt hc), cond_true, ixg hc, Option.bind_some]
  by_cases h1 : c.toNat < 97
  · rw [decide_eq_true (show (c.toNat : Int) < 97 by omega), if_neg (by simp; omega)]; rfl
  · rw [decide_eq_false (show ¬(c.toNat : Int) < 97 by omega)]
    by_cases h2 : 122 < c.toNat
    · rw [decide_eq_true (show (c.toNat : Int) > 122 by omega), if_neg (by simp; omega)]; rfl
    · rw [decide_eq_false (show ¬(c.toNat : Int) > 122 by omega), if_pos (by simp; omega)]; rfl
theorem scan_word_eq {N : Nat} {w : Str} (hN : w.length < N) : scan_word N w = some (word w) := by
  unfold scan_word
  rw [iter_allL (fun c : UInt8 => decide (97 ≤ c.toNat ∧ c.toNat ≤ 122)) w (fun k c hc => word_step hc) (by simp only [scan_word_b1, dn, cond_false]) N hN]
  exact word_end
theorem ref_word_eq {N : Nat} {w : Str} (hN : w.length < N) : calqueref44_word N w = some (word w) := by
  unfold calqueref44_word
  rw [iter_allL (fun c : UInt8 => decide (97 ≤ c.toNat ∧ c.toNat ≤ 122)) w (fun k c hc => word_step hc) (by simp only [calqueref44_word_b1, dn, cond_false]) N hN]
  exact word_end

/-! ### items -/
theorem lenb (n m : Nat) : decide ((n : Int) ≤ (m : Int)) = decide (n ≤ m) := decide_eq_decide.2 (by omega)
theorem leng (n m : Nat) : decide ((n : Int) ≥ (m : Int)) = decide (m ≤ n) := decide_eq_decide.2 (by omega)
theorem len0 {α : Type} (l : List α) : ((l.length : Int) == 0) = decide (l = []) := by
  cases l with
  | nil => rfl
  | cons x l => simp [beqd]; omega
theorem neN (w : Str) : (w != ([] : Str)) = !decide (w = []) := by cases w <;> simp
theorem scan_proper_eq {N : Nat} {x : Item} (hN : x.Ranges.length < N) : Tells (scan_proper N x) (ItP x) := by
  unfold scan_proper
  rw [mark_eq]
  simp only [Option.bind_some]
  by_cases hm : markOk x
  · rw [decide_eq_true hm]
    simp only [Bool.not_true, cond_false, neN, len0]
    unfold ItP
    by_cases h0 : x.Text = []
    · rw [if_pos h0, decide_eq_true h0]
      simp only [Bool.not_true, cond_false]
      rw [show (1 : Int) = ((1 : Nat) : Int) from rfl, show (20 : Int) = ((20 : Nat) : Int) from rfl, leng, lenb]
      by_cases h1 : 1 ≤ x.Ranges.length
      · by_cases h2 : x.Ranges.length ≤ 20
        · rw [decide_eq_true h1, decide_eq_true h2]
          simp only [cond_true]
          have e : slices_ContainsFunc_scan_Range_scan_Range__69 N x.Ranges = some (x.Ranges.any fun g => decide (g.From > g.To)) := by
            unfold slices_ContainsFunc_scan_Range_scan_Range__69 slices_IndexFunc_scan_Range_scan_Range__69
            have st : ∀ (k : Nat) g, x.Ranges[k]? = some g → slices_IndexFunc_scan_Range_scan_Range__69_b1 N x.Ranges k = some (if decide (g.From > g.To) then .inr (.inr (k : Int)) else .inl ((k : Int) + 1)) := fun k g hg => by
              simp only [slices_IndexFunc_scan_Range_scan_Range__69_b1, dk (getlt hg), cond_true, ixg hg, Option.bind_some, scan_proper_1]
              by_cases hd : g.From > g.To
              · rw [decide_eq_true hd]; rfl
              · rw [decide_eq_false hd]; rfl
            rw [idxf x.Ranges (fun g => decide (g.From > g.To)) hN st (by simp only [slices_IndexFunc_scan_Range_scan_Range__69_b1, dn, cond_false])]
            exact congrArg some (find_ge _ _)
          rw [e]
          refine ⟨_, rfl, ?_⟩
          simp [hm, h1, h2]
        · rw [decide_eq_true h1, decide_eq_false h2]
          exact .no rfl (fun h => h2 h.2.1.2)
      · rw [decide_eq_false h1]
        exact .no rfl (fun h => h1 h.2.1.1)
    · rw [if_neg h0, decide_eq_false h0]
      simp only [Bool.not_false, cond_true]
      rw [show (40 : Int) = ((40 : Nat) : Int) from rfl, lenb]
      by_cases h1 : x.Text.length ≤ 40
      · rw [decide_eq_true h1]
        simp only [cond_true]
        by_cases h2 : x.Ranges = []
        · rw [decide_eq_true h2]
          refine ⟨_, rfl, ?_⟩
          simp [hm, h1, h2]
        · rw [decide_eq_false h2]
          exact .no rfl (fun h => h2 h.2.2.1)
      · rw [decide_eq_false h1]
        exact .no rfl (fun h => h1 h.2.1)
  · rw [decide_eq_false hm]
    exact .no rfl (fun h => hm h.1)
theorem ref_rest {N : Nat} {x : Item} (hm : markOk x) (hN : x.Ranges.length < N) (body : Int → Option (Int ⊕ (Unit ⊕ Bool)))
    (h1 : ∀ (k : Nat) g, x.Ranges[k]? = some g → body k = some (if decide (g.From ≤ g.To) then .inl ((k : Int) + 1) else .inr (.inr false))) (h2 : body x.Ranges.length = some (.inr (.inl ()))) :
    Tells (bif (x.Text != ([])) then
            bif (decide ((x.Text.length : Int) ≤ 40)) then
              bif ((x.Ranges.length : Int) == 0) then
                some (!x.Not)
              else
                some false
            else
              some false
          else
            (iter body N 0).bind fun o15 =>
            Sum.elim (fun _o15 =>
              bif (decide ((x.Ranges.length : Int) ≥ 1)) then
                some (decide ((x.Ranges.length : Int) ≤ 20))
              else
                some false)
            (fun o15 =>
              some o15) o15) (ItP x) := by
  simp only [neN, len0]
  unfold ItP
  by_cases h0 : x.Text = []
  · rw [if_pos h0, decide_eq_true h0]
    simp only [Bool.not_true, cond_false]
    rw [iter_allL (fun g : Range => decide (g.From ≤ g.To)) x.Ranges h1 h2 N hN]
    simp only [Option.bind_some]
    rw [show (1 : Int) = ((1 : Nat) : Int) from rfl, show (20 : Int) = ((20 : Nat) : Int) from rfl, leng, lenb]
    by_cases ha : x.Ranges.all (fun g => decide (g.From ≤ g.To)) = true
    · rw [if_pos ha]
      simp only [List.all_eq_true, decide_eq_true_eq] at ha
      by_cases h3 : 1 ≤ x.Ranges.length
      · rw [decide_eq_true h3]
        refine ⟨_, rfl, ?_⟩
        simp [hm, h3]
        exact fun _ => ha
      · rw [decide_eq_false h3]
        exact .no rfl (fun h => h3 h.2.1.1)
    · rw [if_neg ha]
      refine .no rfl (fun h => ha ?_)
      simpa using h.2.2
  · rw [if_neg h0, decide_eq_false h0]
    simp only [Bool.not_false, cond_true]
    rw [show (40 : Int) = ((40 : Nat) : Int) from rfl, lenb]
    by_cases h1 : x.Text.length ≤ 40
    · rw [decide_eq_true h1]
      simp only [cond_true]
      by_cases h2 : x.Ranges = []
      · rw [decide_eq_true h2]
        refine ⟨_, rfl, ?_⟩
        simp [hm, h1, h2]
      · rw [decide_eq_false h2]
        exact .no rfl (fun h => h2 h.2.2.1)
    · rw [decide_eq_false h1]
      exact .no rfl (fun h => h1 h.2.1)
theorem ref_Proper_eq {N : Nat} {x : Item} (hN : x.Ranges.length < N) : Tells (calqueref44_Proper N x) (ItP x) := by
  unfold calqueref44_Proper
  by_cases h1 : x.Least < 0
  · rw [decide_eq_true h1]
    exact .no rfl (fun h => by have := h.1.1; omega)
  rw [decide_eq_false h1]
  by_cases h2 : x.Least > 1
  · rw [decide_eq_true h2]
    exact .no rfl (fun h => by have := h.1.1; omega)
  rw [decide_eq_false h2]
  simp only [cond_false]
  by_cases h3 : x.Most = 1
  · have e : (x.Most != 1) = false := by rw [h3]; rfl
    rw [e]
    simp only [cond_false]
    refine ref_rest ⟨by omega, by omega⟩ hN _ (fun k g hg => ?_) ?_
    · simp only [calqueref44_Proper_b2, dk (getlt hg), cond_true, ixg hg, Option.bind_some]
      by_cases hd : g.From ≤ g.To
      · rw [decide_eq_false (by omega), decide_eq_true hd]; rfl
      · rw [decide_eq_true (by omega), decide_eq_false hd]; rfl
    · simp only [calqueref44_Proper_b2, dn, cond_false]
  · have e : (x.Most != 1) = true := by simpa using h3
    rw [e]
    simp only [cond_true]
    by_cases h4 : x.Most = -1
    · have e : (x.Most != (-1)) = false := by rw [h4]; rfl
      rw [e]
      simp only [cond_false]
      refine ref_rest ⟨by omega, by omega⟩ hN _ (fun k g hg => ?_) ?_
      · simp only [calqueref44_Proper_b1, dk (getlt hg), cond_true, ixg hg, Option.bind_some]
        by_cases hd : g.From ≤ g.To
        · rw [decide_eq_false (by omega), decide_eq_true hd]; rfl
        · rw [decide_eq_true (by omega), decide_eq_false hd]; rfl
      · simp only [calqueref44_Proper_b1, dn, cond_false]
    · have e : (x.Most != (-1)) = true := by simpa using h4
      rw [e]
      exact .no rfl (fun h => by have := h.1.2; omega)

/-! ### rules -/
theorem sound_items {N : Nat} {l : List Item} (hN : SzL N l) : Tells ((slices_ContainsFunc_scan_Item_scan_Item__51 N l).bind fun r12 => some (!r12)) (∀ x ∈ l, ItP x) := by
  classical
  have e : slices_ContainsFunc_scan_Item_scan_Item__51 N l = some (l.any fun x => decide (¬ItP x)) := by
    unfold slices_ContainsFunc_scan_Item_scan_Item__51 slices_IndexFunc_scan_Item_scan_Item__51
    have st : ∀ (k : Nat) x, l[k]? = some x → slices_IndexFunc_scan_Item_scan_Item__51_b1 N l k = some (if decide (¬ItP x) then .inr (.inr (k : Int)) else .inl ((k : Int) + 1)) := fun k x hx => by
      simp only [slices_IndexFunc_scan_Item_scan_Item__51_b1, dk (getlt hx), cond_true, ixg hx, Option.bind_some, scan_sound_1]
      rcases (scan_proper_eq (hN.2 x (List.mem_of_getElem? hx)).2).cases with ⟨h, p⟩ | ⟨h, p⟩
      · rw [h]; simp [p]
      · rw [h]; simp [p]
    rw [idxf l (fun x => decide (¬ItP x)) hN.1 st (by simp only [slices_IndexFunc_scan_Item_scan_Item__51_b1, dn, cond_false])]
    exact congrArg some (find_ge _ _)
  rw [e]
  refine ⟨_, rfl, ?_⟩
  simp
theorem scan_sound_eq {N : Nat} {r : Rule} (hN : SzR N r) : Tells (scan_sound N r) (RlP r ∧ (r.Next = [] ∨ word r.Next = true)) := by
  unfold scan_sound
  have hi := sound_items hN.2.2
  have e1 : (1 : Int) = ((1 : Nat) : Int) := rfl
  have e2 : (20 : Int) = ((20 : Nat) : Int) := rfl
  rw [scan_word_eq hN.1, scan_word_eq hN.2.1]
  simp only [Option.bind_some]
  rw [e1, e2, leng, lenb]
  have fin : ∀ (P : Prop), P → (P ↔ (r.Next = [] ∨ word r.Next = true)) → word r.Kind = true → Tells (bif decide (1 ≤ r.Items.length) then bif decide (r.Items.length ≤ 20) then (slices_ContainsFunc_scan_Item_scan_Item__51 N r.Items).bind fun r12 => some (!r12) else some false else some false) (RlP r ∧ (r.Next = [] ∨ word r.Next = true)) := fun P p hP hk => by
    by_cases h1 : 1 ≤ r.Items.length
    · by_cases h2 : r.Items.length ≤ 20
      · rw [decide_eq_true h1, decide_eq_true h2]
        simp only [cond_true]
        exact hi.iff ⟨fun h => ⟨⟨hk, ⟨h1, h2⟩, h⟩, hP.1 p⟩, fun h => h.1.2.2⟩
      · rw [decide_eq_true h1, decide_eq_false h2]
        exact .no rfl (fun h => h2 h.1.2.1.2)
    · rw [decide_eq_false h1]
      exact .no rfl (fun h => h1 h.1.2.1.1)
  cases hk : word r.Kind with
  | false => exact .no rfl (fun h => by have := h.1.1; rw [hk] at this; cases this)
  | true =>
    simp only [cond_true]
    by_cases h0 : r.Next = []
    · have e : (r.Next == ([] : Str)) = true := by simp [h0]
      rw [e]
      exact fin _ h0 ⟨fun h => .inl h, fun _ => h0⟩ hk
    · have e : (r.Next == ([] : Str)) = false := by simpa using h0
      rw [e]
      simp only [cond_false]
      have hw0 : word r.Next = true ∨ word r.Next = false := by cases word r.Next <;> simp
      rcases hw0.symm with hw | hw
      · rw [hw]; exact .no rfl (fun h => by rcases h.2 with h | h; exact h0 h; cases h)
      · have f := fin (word r.Next = true) hw ⟨fun h => .inr h, fun h => h.resolve_left h0⟩ hk
        rw [hw] at f ⊢
        exact f
theorem ref_proper_eq {N : Nat} {r : Rule} (hN : SzR N r) : Tells (calqueref44_proper N r) (RlP r) := by
  unfold calqueref44_proper
  have e1 : (1 : Int) = ((1 : Nat) : Int) := rfl
  have e2 : (20 : Int) = ((20 : Nat) : Int) := rfl
  rcases iter_allP (body := fun s => calqueref44_proper_b1 N r s) ItP r.Items hN.2.2.1 (fun k x hx => by
    rcases (ref_Proper_eq (hN.2.2.2 x (List.mem_of_getElem? hx)).2).cases with ⟨h, p⟩ | ⟨h, p⟩
    · exact .inl ⟨p, by simp only [calqueref44_proper_b1, dk (getlt hx), cond_true, ixg hx, Option.bind_some, h, Bool.not_true, cond_false]⟩
    · exact .inr ⟨p, by simp only [calqueref44_proper_b1, dk (getlt hx), cond_true, ixg hx, Option.bind_some, h, Bool.not_false, cond_true]⟩) (by simp only [calqueref44_proper_b1, dn, cond_false]) with ⟨h, p⟩ | ⟨h, p⟩
  · rw [h, ref_word_eq hN.1]
    simp only [Option.bind_some, Sum.elim_inl]
    rw [e1, e2, leng, lenb]
    cases hk : word r.Kind with
    | false => exact .no rfl (fun h => by have := h.1; rw [hk] at this; cases this)
    | true =>
      simp only [cond_true]
      by_cases h1 : 1 ≤ r.Items.length
      · rw [decide_eq_true h1]
        refine ⟨_, rfl, ?_⟩
        unfold RlP
        simp [hk, h1]
        exact fun _ => p
      · rw [decide_eq_false h1]
        exact .no rfl (fun h => h1 h.2.1.1)
  · rw [h]
    exact .no rfl (fun h => p h.2.2)
end Go.Proofs.Ytmmioinglmeoiaa
