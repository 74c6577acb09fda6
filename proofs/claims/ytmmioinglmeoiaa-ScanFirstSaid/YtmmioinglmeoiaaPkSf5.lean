/- Texts of this proof, put together by pack.py: what its declarations name. -/
import Derived.Test.YtmmioinglmeoiaaPkSf4
import Derived.Test.YtmmioinglmeoiaaChecked
import Derived.Test.YtmmioinglmeoiaaProg
import Derived.Test.YtmmioinglmeoiaaRows
set_option linter.unusedVariables false
namespace Go.Proofs.Ytmmioinglmeoiaa
open Go.X
def Tells (o : Option Bool) (P : Prop) : Prop := ∃ b, o = some b ∧ (b = true ↔ P)
theorem Tells.no {o : Option Bool} {P : Prop} (h : o = some false) (p : ¬P) : Tells o P := ⟨false, h, by simp [p]⟩
theorem Tells.iff {o : Option Bool} {P Q : Prop} (h : Tells o P) (e : P ↔ Q) : Tells o Q := by obtain ⟨b, h1, h2⟩ := h; exact ⟨b, h1, h2.trans e⟩
theorem Tells.same {o o' : Option Bool} {P : Prop} (h : Tells o P) (h' : Tells o' P) : o = o' := by
  obtain ⟨b, h1, h2⟩ := h
  obtain ⟨b', h3, h4⟩ := h'
  rw [h1, h3]
  cases b <;> cases b' <;> simp_all
theorem Tells.dec {P : Prop} [Decidable P] : Tells (some (decide P)) P := ⟨_, rfl, by simp⟩
theorem Tells.cases {o : Option Bool} {P : Prop} (h : Tells o P) : (o = some true ∧ P) ∨ (o = some false ∧ ¬P) := by
  obtain ⟨b, h1, h2⟩ := h
  cases b with
  | true => exact .inl ⟨h1, h2.1 rfl⟩
  | false => exact .inr ⟨h1, fun p => by simpa using h2.2 p⟩
theorem iter_allP {α : Type} {body : Int → Option (Int ⊕ (Unit ⊕ Bool))} (P : α → Prop) (xs : List α) {N : Nat} (hN : xs.length < N)
    (h1 : ∀ (k : Nat) x, xs[k]? = some x → (P x ∧ body k = some (.inl ((k : Int) + 1))) ∨ (¬P x ∧ body k = some (.inr (.inr false)))) (h2 : body xs.length = some (.inr (.inl ()))) :
    (iter body N 0 = some (.inl ()) ∧ ∀ x ∈ xs, P x) ∨ (iter body N 0 = some (.inr false) ∧ ¬∀ x ∈ xs, P x) := by
  classical
  have h := iter_allL (body := body) (fun x => decide (P x)) xs (fun k x hx => by
    rcases h1 k x hx with ⟨p, h⟩ | ⟨p, h⟩
    · rw [h]; simp [p]
    · rw [h]; simp [p]) h2 N hN
  by_cases hp : ∀ x ∈ xs, P x
  · refine .inl ⟨?_, hp⟩
    rw [h, if_pos (by simpa using hp)]
  · refine .inr ⟨?_, hp⟩
    rw [h, if_neg (by simpa using hp)]
theorem iter_indE {σ β : Type} {body : σ → Option (σ ⊕ β)} (I : Nat → σ → Prop) (n : Nat) (Q : β → Prop) (hs : ∀ i s, i < n → I i s → (∃ s', body s = some (.inl s') ∧ I (i + 1) s') ∨ ∃ b, body s = some (.inr b) ∧ Q b) (hd : ∀ s, I n s → ∃ b, body s = some (.inr b) ∧ Q b) :
    ∀ N s, n < N → I 0 s → ∃ b, iter body N s = some b ∧ Q b := by
  have key : ∀ j k N s, k + j = n → j < N → I k s → ∃ b, iter body N s = some b ∧ Q b := by
    intro j
    induction j with
    | zero =>
      intro k N s hk hN hI
      obtain ⟨N, rfl⟩ : ∃ M, N = M + 1 := ⟨N - 1, by omega⟩
      have : k = n := by omega
      subst this
      obtain ⟨b, h1, h2⟩ := hd s hI
      exact ⟨b, by simp only [iter, h1], h2⟩
    | succ j ih =>
      intro k N s hk hN hI
      obtain ⟨N, rfl⟩ : ∃ M, N = M + 1 := ⟨N - 1, by omega⟩
      rcases hs k s (by omega) hI with ⟨s', h1, h2⟩ | ⟨b, h1, h2⟩
      · simp only [iter, h1]
        exact ih (k + 1) N s' (by omega) (by omega) h2
      · exact ⟨b, by simp only [iter, h1], h2⟩
  exact fun N s hN hI => key n 0 N s (by omega) hN hI
theorem idxf {α : Type} {body : Int → Option (Int ⊕ (Unit ⊕ Int))} (xs : List α) (p : α → Bool) {N : Nat} (hN : xs.length < N)
    (h1 : ∀ (k : Nat) x, xs[k]? = some x → body k = some (if p x then .inr (.inr k) else .inl ((k : Int) + 1))) (h2 : body xs.length = some (.inr (.inl ()))) :
    ((iter body N 0).bind fun o => Sum.elim (fun _ => some (-1 : Int)) (fun o => some o) o) = some (match xs.findIdx? p with | some k => (k : Int) | none => -1) := by
  rw [iter_find xs p h1 h2 N hN]; exact find_any xs p
theorem word_end {w : Str} : Sum.elim (fun _ : Unit => bif (decide ((w.length : Int) ≥ 1)) then some (decide ((w.length : Int) ≤ 16)) else some false) (fun o2 : Bool => some o2) (if w.all (fun c => decide (97 ≤ c.toNat ∧ c.toNat ≤ 122)) then .inl () else .inr false) = some (word w) := by
  unfold word
  by_cases h : w.all (fun c => decide (97 ≤ c.toNat ∧ c.toNat ≤ 122)) = true
  · rw [if_pos h, h]
    simp only [Sum.elim_inl, Bool.true_and]
    by_cases h1 : 1 ≤ w.length
    · rw [decide_eq_true (show (w.length : Int) ≥ 1 by omega), decide_eq_true h1, cond_true, Bool.true_and]
      congr 1
      exact decide_eq_decide.2 (by omega)
    · rw [decide_eq_false (show ¬(w.length : Int) ≥ 1 by omega), decide_eq_false h1]; rfl
  · rw [if_neg h]
    simp only [Bool.not_eq_true] at h
    rw [h]; rfl
theorem word_step {w : Str} {k : Nat} {c : UInt8} (hc : w[k]? = some c) : (bif (decide ((k : Int) < (w.length : Int))) then
    (idx w k).bind fun c7 =>
    bif (decide ((c7.toNat : Int) < 97)) then
      some (.inr (.inr false))
    else
      (idx w k).bind fun c10 =>
      bif (decide ((c10.toNat : Int) > 122)) then
        some (.inr (.inr false))
      else
        some (.inl ((k : Int) + 1))
  else
    some (.inr (.inl ())) : Option (Int ⊕ (Unit ⊕ Bool))) = some (if decide (97 ≤ c.toNat ∧ c.toNat ≤ 122) then .inl ((k : Int) + 1) else .inr (.inr false)) := by
  simp only [dk (getlt hc), cond_true, ixg hc, Option.bind_some]
  by_cases h1 : c.toNat < 97
  · rw [decide_eq_true (show (c.toNat : Int) < 97 by omega), if_neg (by simp; omega)]; rfl
  · rw [decide_eq_false (show ¬(c.toNat : Int) < 97 by omega)]
    by_cases h2 : 122 < c.toNat
    · rw [decide_eq_true (show (c.toNat : Int) > 122 by omega), if_neg (by simp; omega)]; rfl
    · rw [decide_eq_false (show ¬(c.toNat : Int) > 122 by omega), if_pos (by simp; omega)]; rfl
theorem scan_word_eq {N : Nat} {w : Str} (hN : w.length < N) : scan_word N w = some (word w) := by
  unfold scan_word
  rw [iter_allL (fun c : UInt8 => decide (97 ≤ c.toNat ∧ c.toNat ≤ 122)) w (fun k c hc => word_step hc) (by simp only [scan_word_b1, dn, cond_false]) N hN]
  exact word_end
theorem ref_word_eq {N : Nat} {w : Str} (hN : w.length < N) : calqueref44_word N w = some (word w) := by
  unfold calqueref44_word
  rw [iter_allL (fun c : UInt8 => decide (97 ≤ c.toNat ∧ c.toNat ≤ 122)) w (fun k c hc => word_step hc) (by simp only [calqueref44_word_b1, dn, cond_false]) N hN]
  exact word_end
theorem lenb (n m : Nat) : decide ((n : Int) ≤ (m : Int)) = decide (n ≤ m) := decide_eq_decide.2 (by omega)
theorem leng (n m : Nat) : decide ((n : Int) ≥ (m : Int)) = decide (m ≤ n) := decide_eq_decide.2 (by omega)
theorem len0 {α : Type} (l : List α) : ((l.length : Int) == 0) = decide (l = []) := by
  cases l with
  | nil => rfl
  | cons x l => simp [beqd]; omega
theorem neN (w : Str) : (w != ([] : Str)) = !decide (w = []) := by cases w <;> simp
theorem scan_proper_eq {N : Nat} {x : Item} (hN : x.Ranges.length < N) : Tells (scan_proper N x) (ItP x) := by
  unfold scan_proper
  rw [mark_eq]
  simp only [Option.bind_some]
  by_cases hm : markOk x
  · rw [decide_eq_true hm]
    simp only [Bool.not_true, cond_false, neN, len0]
    unfold ItP
    by_cases h0 : x.Text = []
    · rw [if_pos h0, decide_eq_true h0]
      simp only [Bool.not_true, cond_false]
      rw [show (1 : Int) = ((1 : Nat) : Int) from rfl, show (20 : Int) = ((20 : Nat) : Int) from rfl, leng, lenb]
      by_cases h1 : 1 ≤ x.Ranges.length
      · by_cases h2 : x.Ranges.length ≤ 20
        · rw [decide_eq_true h1, decide_eq_true h2]
          simp only [cond_true]
          have e : slices_ContainsFunc_scan_Range_scan_Range__69 N x.Ranges = some (x.Ranges.any fun g => decide (g.From > g.To)) := by
            unfold slices_ContainsFunc_scan_Range_scan_Range__69 slices_IndexFunc_scan_Range_scan_Range__69
            have st : ∀ (k : Nat) g, x.Ranges[k]? = some g → slices_IndexFunc_scan_Range_scan_Range__69_b1 N x.Ranges k = some (if decide (g.From > g.To) then .inr (.inr (k : Int)) else .inl ((k : Int) + 1)) := fun k g hg => by
              simp only [slices_IndexFunc_scan_Range_scan_Range__69_b1, dk (getlt hg), cond_true, ixg hg, Option.bind_some, scan_proper_1]
              by_cases hd : g.From > g.To
              · rw [decide_eq_true hd]; rfl
              · rw [decide_eq_false hd]; rfl
            rw [idxf x.Ranges (fun g => decide (g.From > g.To)) hN st (by simp only [slices_IndexFunc_scan_Range_scan_Range__69_b1, dn, cond_false])]
            exact congrArg some (find_ge _ _)
          rw [e]
          refine ⟨_, rfl, ?_⟩
          simp [hm, h1, h2]
        · rw [decide_eq_true h1, decide_eq_false h2]
          exact .no rfl (fun h => h2 h.2.1.2)
      · rw [decide_eq_false h1]
        exact .no rfl (fun h => h1 h.2.1.1)
    · rw [if_neg h0, decide_eq_false h0]
      simp only [Bool.not_false, cond_true]
      rw [show (40 : Int) = ((40 : Nat) : Int) from rfl, lenb]
      by_cases h1 : x.Text.length ≤ 40
      · rw [decide_eq_true h1]
        simp only [cond_true]
        by_cases h2 : x.Ranges = []
        · rw [decide_eq_true h2]
          refine ⟨_, rfl, ?_⟩
          simp [hm, h1, h2]
        · rw [decide_eq_false h2]
          exact .no rfl (fun h => h2 h.2.2.1)
      · rw [decide_eq_false h1]
        exact .no rfl (fun h => h1 h.2.1)
  · rw [decide_eq_false hm]
    exact .no rfl (fun h => hm h.1)
theorem ref_rest {N : Nat} {x : Item} (hm : markOk x) (hN : x.Ranges.length < N) (body : Int → Option (Int ⊕ (Unit ⊕ Bool)))
    (h1 : ∀ (k : Nat) g, x.Ranges[k]? = some g → body k = some (if decide (g.From ≤ g.To) then .inl ((k : Int) + 1) else .inr (.inr false))) (h2 : body x.Ranges.length = some (.inr (.inl ()))) :
    Tells (bif (x.Text != ([])) then
            bif (decide ((x.Text.length : Int) ≤ 40)) then
              bif ((x.Ranges.length : Int) == 0) then
                some (!x.Not)
              else
                some false
            else
              some false
          else
            (iter body N 0).bind fun o15 =>
            Sum.elim (fun _o15 =>
              bif (decide ((x.Ranges.length : Int) ≥ 1)) then
                some (decide ((x.Ranges.length : Int) ≤ 20))
              else
                some false)
            (fun o15 =>
              some o15) o15) (ItP x) := by
  simp only [neN, len0]
  unfold ItP
  by_cases h0 : x.Text = []
  · rw [if_pos h0, decide_eq_true h0]
    simp only [Bool.not_true, cond_false]
    rw [iter_allL (fun g : Range => decide (g.From ≤ g.To)) x.Ranges h1 h2 N hN]
    simp only [Option.bind_some]
    rw [show (1 : Int) = ((1 : Nat) : Int) from rfl, show (20 : Int) = ((20 : Nat) : Int) from rfl, leng, lenb]
    by_cases ha : x.Ranges.all (fun g => decide (g.From ≤ g.To)) = true
    · rw [if_pos ha]
      simp only [List.all_eq_true, decide_eq_true_eq] at ha
      by_cases h3 : 1 ≤ x.Ranges.length
      · rw [decide_eq_true h3]
        refine ⟨_, rfl, ?_⟩
        simp [hm, h3]
        exact fun _ => ha
      · rw [decide_eq_false h3]
        exact .no rfl (fun h => h3 h.2.1.1)
    · rw [if_neg ha]
      refine .no rfl (fun h => ha ?_)
      simpa using h.2.2
  · rw [if_neg h0, decide_eq_false h0]
    simp only [Bool.not_false, cond_true]
    rw [show (40 : Int) = ((40 : Nat) : Int) from rfl, lenb]
    by_cases h1 : x.Text.length ≤ 40
    · rw [decide_eq_true h1]
      simp only [cond_true]
      by_cases h2 : x.Ranges = []
      · rw [decide_eq_true h2]
        refine ⟨_, rfl, ?_⟩
        simp [hm, h1, h2]
      · rw [decide_eq_false h2]
        exact .no rfl (fun h => h2 h.2.2.1)
    · rw [decide_eq_false h1]
      exact .no rfl (fun h => h1 h.2.1)
theorem ref_Proper_eq {N : Nat} {x : Item} (hN : x.Ranges.length < N) : Tells (calqueref44_Proper N x) (ItP x) := by
  unfold calqueref44_Proper
  by_cases h1 : x.Least < 0
  · rw [decide_eq_true h1]
    exact .no rfl (fun h => by have := h.1.1; omega)
  rw [decide_eq_false h1]
  by_cases h2 : x.Least > 1
  · rw [decide_eq_true h2]
    exact .no rfl (fun h => by have := h.1.1; omega)
  rw [decide_eq_false h2]
  simp only [cond_false]
  by_cases h3 : x.Most = 1
  · have e : (x.Most != 1) = false := by rw [h3]; rfl
    rw [e]
    simp only [cond_false]
    refine ref_rest ⟨by omega, by omega⟩ hN _ (fun k g hg => ?_) ?_
    · simp only [calqueref44_Proper_b2, dk (getlt hg), cond_true, ixg hg, Option.bind_some]
      by_cases hd : g.From ≤ g.To
      · rw [decide_eq_false (by omega), decide_eq_true hd]; rfl
      · rw [decide_eq_true (by omega), decide_eq_false hd]; rfl
    · simp only [calqueref44_Proper_b2, dn, cond_false]
  · have e : (x.Most != 1) = true := by simpa using h3
    rw [e]
    simp only [cond_true]
    by_cases h4 : x.Most = -1
    · have e : (x.Most != (-1)) = false := by rw [h4]; rfl
      rw [e]
      simp only [cond_false]
      refine ref_rest ⟨by omega, by omega⟩ hN _ (fun k g hg => ?_) ?_
      · simp only [calqueref44_Proper_b1, dk (getlt hg), cond_true, ixg hg, Option.bind_some]
        by_cases hd : g.From ≤ g.To
        · rw [decide_eq_false (by omega), decide_eq_true hd]; rfl
        · rw [decide_eq_true (by omega), decide_eq_false hd]; rfl
      · simp only [calqueref44_Proper_b1, dn, cond_false]
    · have e : (x.Most != (-1)) = true := by simpa using h4
      rw [e]
      exact .no rfl (fun h => by have := h.1.2; omega)
theorem sound_items {N : Nat} {l : List Item} (hN : SzL N l) : Tells ((slices_ContainsFunc_scan_Item_scan_Item__51 N l).bind fun r12 => some (!r12)) (∀ x ∈ l, ItP x) := by
  classical
  have e : slices_ContainsFunc_scan_Item_scan_Item__51 N l = some (l.any fun x => decide (¬ItP x)) := by
    unfold slices_ContainsFunc_scan_Item_scan_Item__51 slices_IndexFunc_scan_Item_scan_Item__51
    have st : ∀ (k : Nat) x, l[k]? = some x → slices_IndexFunc_scan_Item_scan_Item__51_b1 N l k = some (if decide (¬ItP x) then .inr (.inr (k : Int)) else .inl ((k : Int) + 1)) := fun k x hx => by
      simp only [slices_IndexFunc_scan_Item_scan_Item__51_b1, dk (getlt hx), cond_true, ixg hx, Option.bind_some, scan_sound_1]
      rcases (scan_proper_eq (hN.2 x (List.mem_of_getElem? hx)).2).cases with ⟨h, p⟩ | ⟨h, p⟩
      · rw [h]; simp [p]
      · rw [h]; simp [p]
    rw [idxf l (fun x => decide (¬ItP x)) hN.1 st (by simp only [slices_IndexFunc_scan_Item_scan_Item__51_b1, dn, cond_false])]
    exact congrArg some (find_ge _ _)
  rw [e]
  refine ⟨_, rfl, ?_⟩
  simp
theorem scan_sound_eq {N : Nat} {r : Rule} (hN : SzR N r) : Tells (scan_sound N r) (RlP r ∧ (r.Next = [] ∨ word r.Next = true)) := by
  unfold scan_sound
  have hi := sound_items hN.2.2
  have e1 : (1 : Int) = ((1 : Nat) : Int) := rfl
  have e2 : (20 : Int) = ((20 : Nat) : Int) := rfl
  rw [scan_word_eq hN.1, scan_word_eq hN.2.1]
  simp only [Option.bind_some]
  rw [e1, e2, leng, lenb]
  have fin : ∀ (P : Prop), P → (P ↔ (r.Next = [] ∨ word r.Next = true)) → word r.Kind = true → Tells (bif decide (1 ≤ r.Items.length) then bif decide (r.Items.length ≤ 20) then (slices_ContainsFunc_scan_Item_scan_Item__51 N r.Items).bind fun r12 => some (!r12) else some false else some false) (RlP r ∧ (r.Next = [] ∨ word r.Next = true)) := fun P p hP hk => by
    by_cases h1 : 1 ≤ r.Items.length
    · by_cases h2 : r.Items.length ≤ 20
      · rw [decide_eq_true h1, decide_eq_true h2]
        simp only [cond_true]
        exact hi.iff ⟨fun h => ⟨⟨hk, ⟨h1, h2⟩, h⟩, hP.1 p⟩, fun h => h.1.2.2⟩
      · rw [decide_eq_true h1, decide_eq_false h2]
        exact .no rfl (fun h => h2 h.1.2.1.2)
    · rw [decide_eq_false h1]
      exact .no rfl (fun h => h1 h.1.2.1.1)
  cases hk : word r.Kind with
  | false => exact .no rfl (fun h => by have := h.1.1; rw [hk] at this; cases this)
  | true =>
    simp only [cond_true]
    by_cases h0 : r.Next = []
    · have e : (r.Next == ([] : Str)) = true := by simp [h0]
      rw [e]
      exact fin _ h0 ⟨fun h => .inl h, fun _ => h0⟩ hk
    · have e : (r.Next == ([] : Str)) = false := by simpa using h0
      rw [e]
      simp only [cond_false]
      have hw0 : word r.Next = true ∨ word r.Next = false := by cases word r.Next <;> simp
      rcases hw0.symm with hw | hw
      · rw [hw]; exact .no rfl (fun h => by rcases h.2 with h | h; exact h0 h; cases h)
      · have f := fin (word r.Next = true) hw ⟨fun h => .inr h, fun h => h.resolve_left h0⟩ hk
        rw [hw] at f ⊢
        exact f
theorem ref_proper_eq {N : Nat} {r : Rule} (hN : SzR N r) : Tells (calqueref44_proper N r) (RlP r) := by
  unfold calqueref44_proper
  have e1 : (1 : Int) = ((1 : Nat) : Int) := rfl
  have e2 : (20 : Int) = ((20 : Nat) : Int) := rfl
  rcases iter_allP (body := fun s => calqueref44_proper_b1 N r s) ItP r.Items hN.2.2.1 (fun k x hx => by
    rcases (ref_Proper_eq (hN.2.2.2 x (List.mem_of_getElem? hx)).2).cases with ⟨h, p⟩ | ⟨h, p⟩
    · exact .inl ⟨p, by simp only [calqueref44_proper_b1, dk (getlt hx), cond_true, ixg hx, Option.bind_some, h, Bool.not_true, cond_false]⟩
    · exact .inr ⟨p, by simp only [calqueref44_proper_b1, dk (getlt hx), cond_true, ixg hx, Option.bind_some, h, Bool.not_false, cond_true]⟩) (by simp only [calqueref44_proper_b1, dn, cond_false]) with ⟨h, p⟩ | ⟨h, p⟩
  · rw [h, ref_word_eq hN.1]
    simp only [Option.bind_some, Sum.elim_inl]
    rw [e1, e2, leng, lenb]
    cases hk : word r.Kind with
    | false => exact .no rfl (fun h => by have := h.1; rw [hk] at this; cases this)
    | true =>
      simp only [cond_true]
      by_cases h1 : 1 ≤ r.Items.length
      · rw [decide_eq_true h1]
        refine ⟨_, rfl, ?_⟩
        unfold RlP
        simp [hk, h1]
        exact fun _ => p
      · rw [decide_eq_false h1]
        exact .no rfl (fun h => h1 h.2.1.1)
  · rw [h]
    exact .no rfl (fun h => p h.2.2)
end Go.Proofs.Ytmmioinglmeoiaa
namespace Go.Proofs.Ytmmioinglmeoiaa
open Go.X
theorem mget_map {s : List State} {n : Str} : mget (s.map fun x => (x.Name, true)) n = if n ∈ s.map State.Name then some true else none := by
  induction s with
  | nil => rfl
  | cons x s ih =>
    simp only [List.map_cons, mget, List.find?_cons, List.mem_cons] at ih ⊢
    by_cases h : n = x.Name
    · subst h; simp
    · have : (n == x.Name) = false := by simpa using h
      simp only [this, h, false_or]
      exact ih
theorem mset_new {s : List State} {n : Str} (h : n ∉ s.map State.Name) (hl : s.length ≤ 100) : mset (s.map fun x => (x.Name, true)) n true = some (s.map (fun x => (x.Name, true)) ++ [(n, true)]) := by
  unfold mset
  rw [if_pos (by unfold LIM; simp; omega), mput_new]
  intro p hp e
  obtain ⟨x, hx, rfl⟩ := List.mem_map.1 hp
  exact h (List.mem_map.2 ⟨x, hx, e⟩)
def A1 (s : List State) : Prop := (∀ x ∈ s, word x.Name = true ∧ 1 ≤ x.Rules.length ∧ x.Rules.length ≤ 40) ∧ (s.map State.Name).Nodup
def A2 (s : List State) : Prop := ∀ x ∈ s, ∀ r ∈ x.Rules, RlP r ∧ (r.Next = [] ∨ r.Next ∈ s.map State.Name)
theorem Vs_iff {s : List State} : Vs s ↔ (1 ≤ s.length ∧ s.length ≤ 20) ∧ A1 s ∧ A2 s :=
  ⟨fun h => ⟨h.len, ⟨fun x hx => ⟨h.name x hx, h.rules x hx⟩, h.nd⟩, h.rl⟩, fun ⟨h1, h2, h3⟩ => ⟨h1, fun x hx => (h2.1 x hx).1, fun x hx => (h2.1 x hx).2, h3, h2.2⟩⟩
theorem A1.take {s : List State} {k : Nat} {x : State} (hx : s[k]? = some x) : A1 (s.take (k + 1)) ↔ A1 (s.take k) ∧ (word x.Name = true ∧ 1 ≤ x.Rules.length ∧ x.Rules.length ≤ 40) ∧ x.Name ∉ (s.take k).map State.Name := by
  unfold A1
  rw [← take1 hx]
  simp only [List.mem_append, List.mem_singleton, List.map_append, List.map_cons, List.map_nil, List.nodup_append]
  constructor
  · rintro ⟨h1, h2, _, h3⟩
    exact ⟨⟨fun y hy => h1 y (.inl hy), h2⟩, h1 x (.inr rfl), fun h => h3 _ h _ rfl rfl⟩
  · rintro ⟨⟨h1, h2⟩, h3, h4⟩
    refine ⟨fun y hy => ?_, h2, by simp, fun a ha b hb e => ?_⟩
    · rcases hy with hy | rfl
      · exact h1 y hy
      · exact h3
    · subst hb; subst e; exact h4 ha
theorem A1.sub {s : List State} (k : Nat) (h : A1 s) : A1 (s.take k) :=
  ⟨fun x hx => h.1 x (List.mem_of_mem_take hx), h.2.sublist ((List.take_sublist _ _).map _)⟩
theorem scan_loop1 {N : Nat} {s : List State} (hs : Sz N s) (hl : s.length ≤ 20) :
    (iter (fun st : Int × List (Str × Bool) => scan_Valid_b1 N s st.1 st.2) N (0, []) = some (.inl (s.map fun x => (x.Name, true))) ∧ A1 s) ∨ (iter (fun st : Int × List (Str × Bool) => scan_Valid_b1 N s st.1 st.2) N (0, []) = some (.inr false) ∧ ¬A1 s) := by
  obtain ⟨b, h1, h2⟩ := iter_indE (body := fun st : Int × List (Str × Bool) => scan_Valid_b1 N s st.1 st.2) (fun i st => st = ((i : Int), (s.take i).map fun x => (x.Name, true)) ∧ A1 (s.take i)) s.length
    (fun b => (b = .inl (s.map fun x => (x.Name, true)) ∧ A1 s) ∨ (b = .inr false ∧ ¬A1 s)) (fun i st hi ⟨hst, hA⟩ => by
    subst hst
    obtain ⟨x, hx⟩ := at_lt hi
    have hz := hs.2 x (List.mem_of_getElem? hx)
    have bad : ¬A1 (s.take (i + 1)) → ∃ b : List (Str × Bool) ⊕ Bool, (some (.inr (.inr false)) : Option ((Int × List (Str × Bool)) ⊕ (List (Str × Bool) ⊕ Bool))) = some (.inr b) ∧ ((b = .inl (s.map fun x => (x.Name, true)) ∧ A1 s) ∨ (b = .inr false ∧ ¬A1 s)) := fun h => ⟨_, rfl, .inr ⟨rfl, fun g => h (g.sub _)⟩⟩
    rw [A1.take hx] at bad
    simp only [scan_Valid_b1, dk hi, cond_true, ixg hx, Option.bind_some, scan_word_eq hz.1]
    cases hw : word x.Name with
    | false => exact .inr (bad (fun h => by have := h.2.1.1; rw [hw] at this; cases this))
    | true =>
      simp only [Bool.not_true, cond_false, mget_map]
      by_cases hm : x.Name ∈ (s.take i).map State.Name
      · rw [if_pos hm]
        exact .inr (bad (fun h => h.2.2 hm))
      · rw [if_neg hm]
        simp only [Option.getD_none, cond_false]
        rw [show (1 : Int) = ((1 : Nat) : Int) from rfl, show (40 : Int) = ((40 : Nat) : Int) from rfl]
        by_cases h1 : x.Rules.length < 1
        · rw [decide_eq_true (by omega)]
          exact .inr (bad (fun h => by have := h.2.1.2.1; omega))
        · rw [decide_eq_false (by omega)]
          by_cases h2 : x.Rules.length > 40
          · rw [decide_eq_true (by omega)]
            exact .inr (bad (fun h => by have := h.2.1.2.2; omega))
          · rw [decide_eq_false (by omega)]
            simp only [cond_false]
            rw [mset_new hm (by simp; omega)]
            refine .inl ⟨_, rfl, ?_, ?_⟩
            · rw [← take1 hx]; simp
            · rw [A1.take hx]; exact ⟨hA, ⟨hw, by omega, by omega⟩, hm⟩) (fun st ⟨hst, hA⟩ => by
    subst hst
    rw [List.take_length] at hA ⊢
    exact ⟨_, by simp only [scan_Valid_b1, dn, cond_false], .inl ⟨rfl, hA⟩⟩) N (0, []) hs.1 ⟨by simp, by unfold A1; simp⟩
  rcases h2 with ⟨rfl, h⟩ | ⟨rfl, h⟩
  · exact .inl ⟨h1, h⟩
  · exact .inr ⟨h1, h⟩
theorem scan_rules {N : Nat} {s : List State} (hA : A1 s) {x : State} (hx : SzS N x) :
    (iter (fun st => scan_Valid_b3 N (s.map fun x => (x.Name, true)) x st) N 0 = some (.inl ()) ∧ ∀ r ∈ x.Rules, RlP r ∧ (r.Next = [] ∨ r.Next ∈ s.map State.Name)) ∨ (iter (fun st => scan_Valid_b3 N (s.map fun x => (x.Name, true)) x st) N 0 = some (.inr false) ∧ ¬∀ r ∈ x.Rules, RlP r ∧ (r.Next = [] ∨ r.Next ∈ s.map State.Name)) := by
  have hw : ∀ n ∈ s.map State.Name, word n = true := fun n hn => by
    obtain ⟨y, hy, rfl⟩ := List.mem_map.1 hn
    exact (hA.1 y hy).1
  refine iter_allP (fun r : Rule => RlP r ∧ (r.Next = [] ∨ r.Next ∈ s.map State.Name)) x.Rules hx.2.1 (fun k r hr => ?_) (by simp only [scan_Valid_b3, dn, cond_false])
  simp only [scan_Valid_b3, dk (getlt hr), cond_true, ixg hr, Option.bind_some, neN]
  rcases (scan_sound_eq (hx.2.2 r (List.mem_of_getElem? hr))).cases with ⟨h, p⟩ | ⟨h, p⟩
  · rw [h]
    simp only [Option.bind_some, Bool.not_true, cond_false]
    by_cases h0 : r.Next = []
    · rw [decide_eq_true h0]
      exact .inl ⟨⟨p.1, .inl h0⟩, rfl⟩
    · rw [decide_eq_false h0]
      simp only [Bool.not_false, cond_true, mget_map]
      by_cases hm : r.Next ∈ s.map State.Name
      · rw [if_pos hm]
        exact .inl ⟨⟨p.1, .inr hm⟩, rfl⟩
      · rw [if_neg hm]
        exact .inr ⟨fun h => by rcases h.2 with h | h; exact h0 h; exact hm h, rfl⟩
  · rw [h]
    refine .inr ⟨fun q => p ⟨q.1, ?_⟩, rfl⟩
    rcases q.2 with h | h
    · exact .inl h
    · exact .inr (hw _ h)
theorem scan_loop2 {N : Nat} {s : List State} (hA : A1 s) (hs : Sz N s) :
    (iter (fun st => scan_Valid_b2 N s (s.map fun x => (x.Name, true)) st) N 0 = some (.inl ()) ∧ A2 s) ∨ (iter (fun st => scan_Valid_b2 N s (s.map fun x => (x.Name, true)) st) N 0 = some (.inr false) ∧ ¬A2 s) := by
  refine iter_allP (fun x : State => ∀ r ∈ x.Rules, RlP r ∧ (r.Next = [] ∨ r.Next ∈ s.map State.Name)) s hs.1 (fun k x hx => ?_) (by simp only [scan_Valid_b2, dn, cond_false])
  simp only [scan_Valid_b2, dk (getlt hx), cond_true, ixg hx, Option.bind_some]
  rcases scan_rules hA (hs.2 x (List.mem_of_getElem? hx)) with ⟨h, p⟩ | ⟨h, p⟩
  · rw [h]; exact .inl ⟨p, rfl⟩
  · rw [h]; exact .inr ⟨p, rfl⟩
def Vl (s : List State) : Prop := Vs s ∧ (textT s).length ≤ 8000
def Sb (s : List State) : Prop := ∀ x ∈ s, ∀ r ∈ x.Rules, ∀ y ∈ r.Items, InB y
theorem ScOk.sb {s : List State} (h : ScOk s) : Sb s := fun x hx r hr y hy => (((h.2 x hx).2.2 r hr).2.1.2 y hy).2.1.2
theorem scan_Valid_eq {N : Nat} {s : List State} (hs : Sz N s) (hb : Sb s) (hN : 100 ≤ N) : Tells (scan_Valid N s) (Vl s) := by
  unfold scan_Valid
  by_cases h1 : s.length < 1
  · rw [decide_eq_true (by omega)]
    exact .no rfl (fun h => by have := h.1.len; omega)
  rw [decide_eq_false (by omega)]
  by_cases h2 : s.length > 20
  · rw [decide_eq_true (by omega)]
    exact .no rfl (fun h => by have := h.1.len; omega)
  rw [decide_eq_false (by omega)]
  simp only [cond_false]
  rcases scan_loop1 hs (by omega) with ⟨h, hA⟩ | ⟨h, hA⟩
  · rw [h]
    simp only [Option.bind_some, Sum.elim_inl]
    rcases scan_loop2 hA hs with ⟨h, hB⟩ | ⟨h, hB⟩
    · rw [h]
      simp only [Option.bind_some, Sum.elim_inl]
      have hv : Vs s := Vs_iff.2 ⟨by omega, hA, hB⟩
      rw [scan_text_eq hv hb hN]
      simp only [Option.bind_some]
      rw [show (8000 : Int) = ((8000 : Nat) : Int) from rfl, lenb]
      exact Tells.dec.iff ⟨fun h => ⟨hv, h⟩, fun h => h.2⟩
    · rw [h]
      exact .no rfl (fun h => hB (Vs_iff.1 h.1).2.2)
  · rw [h]
    exact .no rfl (fun h => hA (Vs_iff.1 h.1).2.1)
def fst (s : List State) (n : Str) : Int := match s.findIdx? (fun y => y.Name == n) with | some k => (k : Int) | none => -1
theorem Index_eq {N : Nat} {s : List State} (n : Str) (hN : s.length < N) : calqueref44_Index N s n = some (fst s n) := by
  unfold calqueref44_Index
  have st : ∀ (k : Nat) y, s[k]? = some y → calqueref44_Index_b1 N s n k = some (if y.Name == n then .inr (.inr (k : Int)) else .inl ((k : Int) + 1)) := fun k y hy => by
    simp only [calqueref44_Index_b1, dk (getlt hy), cond_true, ixg hy, Option.bind_some]
    cases y.Name == n <;> rfl
  rw [idxf s (fun y => y.Name == n) hN st (by simp only [calqueref44_Index_b1, dn, cond_false])]
  rfl
theorem fst_mem {s : List State} {n : Str} : (fst s n < 0) ↔ n ∉ s.map State.Name := by
  unfold fst
  cases h : s.findIdx? (fun y => y.Name == n) with
  | none =>
    have := List.findIdx?_eq_none_iff.1 h
    refine ⟨fun _ hm => ?_, fun _ => by decide⟩
    obtain ⟨y, hy, e⟩ := List.mem_map.1 hm
    have := this y hy
    simp [e] at this
  | some k =>
    obtain ⟨hk, h1, _⟩ := List.findIdx?_eq_some_iff_getElem.1 h
    refine ⟨fun h => by simp only at h; omega, fun hm => absurd (List.mem_map.2 ⟨s[k], List.getElem_mem hk, by simpa using h1⟩) hm⟩
theorem fst_take {s : List State} {k : Nat} {x : State} (hx : s[k]? = some x) : fst s x.Name = (k : Int) ↔ x.Name ∉ (s.take k).map State.Name := by
  have hlt := getlt hx
  have hxe : s[k] = x := by rw [List.getElem?_eq_getElem hlt] at hx; exact Option.some.inj hx
  unfold fst
  constructor
  · intro h hm
    cases hf : s.findIdx? (fun y => y.Name == x.Name) with
    | none => rw [hf] at h; simp only at h; omega
    | some j =>
      rw [hf] at h
      simp only at h
      obtain rfl : j = k := by omega
      obtain ⟨_, _, h2⟩ := List.findIdx?_eq_some_iff_getElem.1 hf
      obtain ⟨y, hy, e⟩ := List.mem_map.1 hm
      obtain ⟨i, hi, rfl⟩ := List.mem_iff_getElem.1 hy
      simp only [List.length_take] at hi
      have := h2 i (by omega)
      rw [List.getElem_take] at e
      simp [e] at this
  · intro hm
    have : s.findIdx? (fun y => y.Name == x.Name) = some k := by
      refine List.findIdx?_eq_some_iff_getElem.2 ⟨hlt, by rw [hxe]; simp, fun j hj => ?_⟩
      intro he
      refine hm (List.mem_map.2 ⟨s[j], ?_, by simpa using he⟩)
      exact List.mem_iff_getElem.2 ⟨j, by simp; omega, by rw [List.getElem_take]⟩
    rw [this]
theorem ref_rules {N : Nat} {s : List State} (hs : Sz N s) {i : Nat} {x : State} (hx : s[i]? = some x) :
    (iter (fun st => calqueref44_Valid_b2 N s i st) N 0 = some (.inl ()) ∧ ∀ r ∈ x.Rules, RlP r ∧ (r.Next = [] ∨ r.Next ∈ s.map State.Name)) ∨ (iter (fun st => calqueref44_Valid_b2 N s i st) N 0 = some (.inr false) ∧ ¬∀ r ∈ x.Rules, RlP r ∧ (r.Next = [] ∨ r.Next ∈ s.map State.Name)) := by
  have hz := hs.2 x (List.mem_of_getElem? hx)
  refine iter_allP (fun r : Rule => RlP r ∧ (r.Next = [] ∨ r.Next ∈ s.map State.Name)) x.Rules hz.2.1 (fun k r hr => ?_) (by simp only [calqueref44_Valid_b2, ixg hx, Option.bind_some, dn, cond_false])
  simp only [calqueref44_Valid_b2, ixg hx, dk (getlt hr), cond_true, ixg hr, Option.bind_some, neN]
  rcases (ref_proper_eq (hz.2.2 r (List.mem_of_getElem? hr))).cases with ⟨h, p⟩ | ⟨h, p⟩
  · rw [h]
    simp only [Option.bind_some, Bool.not_true, cond_false]
    by_cases h0 : r.Next = []
    · rw [decide_eq_true h0]
      exact .inl ⟨⟨p, .inl h0⟩, rfl⟩
    · rw [decide_eq_false h0, Index_eq _ hs.1]
      simp only [Bool.not_false, cond_true, Option.bind_some]
      by_cases hm : fst s r.Next < 0
      · rw [decide_eq_true hm]
        exact .inr ⟨fun h => by rcases h.2 with h | h; exact h0 h; exact fst_mem.1 hm h, rfl⟩
      · rw [decide_eq_false hm]
        refine .inl ⟨⟨p, .inr ?_⟩, rfl⟩
        exact Classical.byContradiction fun h => hm (fst_mem.2 h)
  · rw [h]
    exact .inr ⟨fun q => p q.1, rfl⟩
theorem ref_loop {N : Nat} {s : List State} (hs : Sz N s) :
    (iter (fun st => calqueref44_Valid_b1 N s st) N 0 = some (.inl ()) ∧ A1 s ∧ A2 s) ∨ (iter (fun st => calqueref44_Valid_b1 N s st) N 0 = some (.inr false) ∧ ¬(A1 s ∧ A2 s)) := by
  obtain ⟨b, h1, h2⟩ := iter_indE (body := fun st => calqueref44_Valid_b1 N s st) (fun i st => st = (i : Int) ∧ A1 (s.take i) ∧ ∀ x ∈ s.take i, ∀ r ∈ x.Rules, RlP r ∧ (r.Next = [] ∨ r.Next ∈ s.map State.Name)) s.length
    (fun b => (b = .inl () ∧ A1 s ∧ A2 s) ∨ (b = .inr false ∧ ¬(A1 s ∧ A2 s))) (fun i st hi ⟨hst, hA, hB⟩ => by
    subst hst
    obtain ⟨x, hx⟩ := at_lt hi
    have hz := hs.2 x (List.mem_of_getElem? hx)
    have bad : ¬A1 (s.take (i + 1)) → ∃ b : Unit ⊕ Bool, (some (.inr (.inr false)) : Option (Int ⊕ (Unit ⊕ Bool))) = some (.inr b) ∧ ((b = .inl () ∧ A1 s ∧ A2 s) ∨ (b = .inr false ∧ ¬(A1 s ∧ A2 s))) := fun h => ⟨_, rfl, .inr ⟨rfl, fun g => h (g.1.sub _)⟩⟩
    rw [A1.take hx] at bad
    simp only [calqueref44_Valid_b1, dk hi, cond_true, ixg hx, Option.bind_some, ref_word_eq hz.1, Index_eq _ hs.1]
    cases hw : word x.Name with
    | false => exact .inr (bad (fun h => by have := h.2.1.1; rw [hw] at this; cases this))
    | true =>
      simp only [Bool.not_true, cond_false]
      by_cases hm : fst s x.Name = (i : Int)
      · have e : (fst s x.Name != (i : Int)) = false := by rw [hm]; simp
        rw [e]
        simp only [cond_false]
        by_cases h1 : x.Rules.length < 1
        · rw [decide_eq_true (by omega)]
          exact .inr (bad (fun h => by have := h.2.1.2.1; omega))
        · rw [decide_eq_false (by omega)]
          by_cases h2 : x.Rules.length > 40
          · rw [decide_eq_true (by omega)]
            exact .inr (bad (fun h => by have := h.2.1.2.2; omega))
          · rw [decide_eq_false (by omega)]
            simp only [cond_false]
            rcases ref_rules hs hx with ⟨h, p⟩ | ⟨h, p⟩
            · rw [h]
              refine .inl ⟨_, rfl, rfl, ?_, ?_⟩
              · rw [A1.take hx]; exact ⟨hA, ⟨hw, by omega, by omega⟩, (fst_take hx).1 hm⟩
              · rw [← take1 hx]
                intro y hy
                rcases List.mem_append.1 hy with hy | hy
                · exact hB y hy
                · rw [List.mem_singleton.1 hy]; exact p
            · rw [h]
              exact .inr ⟨_, rfl, .inr ⟨rfl, fun g => p (g.2 x (List.mem_of_getElem? hx))⟩⟩
      · have e : (fst s x.Name != (i : Int)) = true := by simpa using hm
        rw [e]
        exact .inr (bad (fun h => hm ((fst_take hx).2 h.2.2)))) (fun st ⟨hst, hA, hB⟩ => by
    subst hst
    rw [List.take_length] at hA hB
    exact ⟨_, by simp only [calqueref44_Valid_b1, dn, cond_false], .inl ⟨rfl, hA, hB⟩⟩) N 0 hs.1 ⟨by simp, by unfold A1; simp, by simp⟩
  rcases h2 with ⟨rfl, h⟩ | ⟨rfl, h⟩
  · exact .inl ⟨h1, h⟩
  · exact .inr ⟨h1, h⟩
theorem ref_Valid_eq {N : Nat} {s : List State} (hs : Sz N s) (hb : Sb s) (hN : 100 ≤ N) : Tells (calqueref44_Valid N s) (Vl s) := by
  unfold calqueref44_Valid
  rcases ref_loop hs with ⟨h, hA, hB⟩ | ⟨h, hA⟩
  · rw [h]
    simp only [Option.bind_some, Sum.elim_inl]
    by_cases h1 : 1 ≤ s.length
    · rw [decide_eq_true (by omega)]
      by_cases h2 : s.length ≤ 20
      · rw [decide_eq_true (by omega)]
        simp only [cond_true]
        have hv : Vs s := Vs_iff.2 ⟨by omega, hA, hB⟩
        rw [ref_text_eq hv hb hN]
        simp only [Option.bind_some]
        rw [show (8000 : Int) = ((8000 : Nat) : Int) from rfl, lenb]
        exact Tells.dec.iff ⟨fun h => ⟨hv, h⟩, fun h => h.2⟩
      · rw [decide_eq_false (by omega)]
        exact .no rfl (fun h => h2 h.1.len.2)
    · rw [decide_eq_false (by omega)]
      exact .no rfl (fun h => h1 h.1.len.1)
  · rw [h]
    exact .no rfl (fun h => hA (Vs_iff.1 h.1).2)
end Go.Proofs.Ytmmioinglmeoiaa
namespace Go.Proofs.Ytmmioinglmeoiaa
open Go.X
def inCls (x : Item) (c : Nat) : Bool := x.Not != x.Ranges.any (fun g => decide (g.From ≤ (c : Int)) && decide ((c : Int) ≤ g.To))
def hit (x : Item) (s : Str) : Option Nat :=
  if x.Text = [] then (match s with | [] => none | c :: _ => if inCls x c.toNat then some 1 else none)
  else if x.Text.isPrefixOf s then some x.Text.length else none
def run (x : Item) : Nat → Str → Nat → Nat × Nat
  | 0, _, c => (0, c)
  | f + 1, s, c => if x.Most < 0 ∨ (c : Int) < x.Most then (match hit x s with | some k => (k + (run x f (s.drop k) (c + 1)).1, (run x f (s.drop k) (c + 1)).2) | none => (0, c)) else (0, c)
def runs : List Item → Str → Option Nat
  | [], _ => some 0
  | x :: l, s => if ((run x (s.length + 1) s 0).2 : Int) < x.Least then none else (runs l (s.drop (run x (s.length + 1) s 0).1)).map ((run x (s.length + 1) s 0).1 + ·)
def bitsOf (x : Item) : Option (List Bool) := if x.Text = [] then some ((List.range 256).map (inCls x)) else none
theorem hit_le {x : Item} {s : Str} {k : Nat} (h : hit x s = some k) : 1 ≤ k ∧ k ≤ s.length := by
  unfold hit at h
  split at h
  · cases s with
    | nil => cases h
    | cons c s =>
      simp only at h
      split at h
      · cases h; simp
      · cases h
  · rename_i h0
    split at h
    · rename_i hp
      cases h
      have := (List.isPrefixOf_iff_prefix.1 hp).length_le
      exact ⟨List.length_pos_iff.2 h0, this⟩
    · cases h
theorem run_le (x : Item) : ∀ (f : Nat) (s : Str) (c : Nat), (run x f s c).1 ≤ s.length := by
  intro f
  induction f with
  | zero => intro s c; simp [run]
  | succ f ih =>
    intro s c
    unfold run
    split
    · cases h : hit x s with
      | none => simp
      | some k =>
        have h1 := hit_le h
        have h2 := ih (s.drop k) (c + 1)
        simp only [List.length_drop] at h2 ⊢
        omega
    · simp
theorem runs_le : ∀ (l : List Item) (s : Str) (n : Nat), runs l s = some n → n ≤ s.length := by
  intro l
  induction l with
  | nil => intro s n h; simp [runs] at h; omega
  | cons x l ih =>
    intro s n h
    unfold runs at h
    split at h
    · cases h
    · cases hr : runs l (s.drop (run x (s.length + 1) s 0).1) with
      | none => rw [hr] at h; cases h
      | some m =>
        rw [hr] at h
        have h1 := ih _ _ hr
        have h2 := run_le x (s.length + 1) s 0
        simp only [Option.map_some, Option.some.injEq] at h
        simp only [List.length_drop] at h1
        omega
theorem wrap_u8 {c : Nat} (h : c < 256) : IntKind.wrap .u8 (c : Int) = (c : Int) := wrap_of (inR_u8.2 ⟨by omega, by omega⟩)
theorem scan_has_eq {N : Nat} {x : Item} {c : Nat} (hc : c < 256) (hN : x.Ranges.length < N) : slices_ContainsFunc_scan_Range_scan_Range__76 N x.Ranges (c : Int) = some (x.Ranges.any (fun g => decide (g.From ≤ (c : Int)) && decide ((c : Int) ≤ g.To))) := by
  unfold slices_ContainsFunc_scan_Range_scan_Range__76 slices_IndexFunc_scan_Range_scan_Range__76
  rw [idxf x.Ranges (fun g : Range => decide (g.From ≤ (c : Int)) && decide ((c : Int) ≤ g.To)) hN (fun k g hg => by
    simp only [slices_IndexFunc_scan_Range_scan_Range__76_b1, dk (getlt hg), cond_true, ixg hg, Option.bind_some, scan_class_1, wrap_u8 hc, ge_iff_le]
    cases decide (g.From ≤ (c : Int)) <;> cases decide ((c : Int) ≤ g.To) <;> rfl) (by simp only [slices_IndexFunc_scan_Range_scan_Range__76_b1, dn, cond_false])]
  rw [Option.bind_some]
  exact congrArg some (find_ge _ _)
theorem setI_app {α : Type} {l r : List α} {k : Nat} (h : l.length = k) (y z : α) : setI (l ++ y :: r) (k : Int) z = some (l ++ z :: r) := by
  unfold setI
  subst h
  rw [if_pos (by simp)]
  simp
theorem rep_split {α : Type} (z : α) {k n : Nat} (h : k < n) : List.replicate (n - k) z = z :: List.replicate (n - (k + 1)) z := by
  rw [show n - k = (n - (k + 1)) + 1 by omega, List.replicate_succ]
theorem scan_class_eq {N : Nat} {x : Item} (hN : x.Ranges.length < N) (h2 : 300 ≤ N) : scan_class N x = some (some ((List.range 256).map (inCls x))) := by
  unfold scan_class
  refine (iter_atB (fun k : Nat => ((k : Int), (List.range k).map (inCls x) ++ List.replicate (256 - k) false)) 256 ((List.range 256).map (inCls x)) rfl (by omega) (fun k hk => ?_) ?_).trans rfl
  · have e : decide ((k : Int) < 256) = true := decide_eq_true (by omega)
    simp only [scan_class_b1, e, cond_true, scan_has_eq hk hN, Option.bind_some]
    rw [rep_split false hk, ix]
    have hl : ((List.range k).map (inCls x)).length = k := by simp
    rw [List.getElem?_append_right (by omega), hl, Nat.sub_self]
    simp only [List.getElem?_cons_zero, Option.bind_some]
    rw [setI_app hl]
    simp only [Option.bind_some, List.range_succ, List.map_append, List.append_assoc]
    rfl
  · simp [scan_class_b1]
theorem scan_classes_eq {N : Nat} {l : List Item} (hs : SzL N l) (h2 : 300 ≤ N) (hl : l.length ≤ 1000000) : scan_classes N l = some (l.map bitsOf) := by
  unfold scan_classes
  unfold Go.X.mk
  rw [if_pos (by unfold LIM; omega)]
  simp only [Option.bind_some, Int.toNat_natCast]
  refine (iter_atB (fun k : Nat => ((k : Int), (l.take k).map bitsOf ++ List.replicate (l.length - k) none)) l.length (l.map bitsOf) (by simp) hs.1 (fun k hk => ?_) ?_).trans rfl
  · obtain ⟨x, hx⟩ := at_lt hk
    simp only [scan_classes_b1, dk hk, cond_true, ixg hx, Option.bind_some]
    have hl : ((l.take k).map bitsOf).length = k := by simp; omega
    rw [rep_split none hk, ← take1 hx]
    by_cases h0 : x.Text = []
    · have e : (x.Text == ([] : Str)) = true := by rw [h0]; rfl
      rw [e]
      simp only [cond_true, scan_class_eq (hs.2 x (List.mem_of_getElem? hx)).2 h2, Option.bind_some]
      rw [ix, List.getElem?_append_right (by omega), hl, Nat.sub_self]
      simp only [List.getElem?_cons_zero, Option.bind_some]
      rw [setI_app hl]
      simp [bitsOf, h0]
    · have e : (x.Text == ([] : Str)) = false := by simpa using h0
      rw [e]
      simp [bitsOf, h0]
  · simp [scan_classes_b1]
theorem slc_tail {α : Type} {s : List α} {n : Nat} (h : n ≤ s.length) : slc s (n : Int) (s.length : Int) = some (s.drop n) := by
  unfold slc
  rw [if_pos (by omega)]
  congr 1
  rw [Int.toNat_natCast, List.take_of_length_le]
  simp only [List.length_drop]
  omega
theorem slc_mid {α : Type} {s : List α} {a b : Nat} (h : a + b ≤ s.length) : slc s (a : Int) ((a : Int) + (b : Int)) = some ((s.drop a).take b) := by
  unfold slc
  rw [if_pos (by omega)]
  congr 2
  omega
theorem wrapN {n : Nat} (h : n ≤ 1000000000) : IntKind.wrap .i64 (n : Int) = (n : Int) := wrap_of (inR_i64.2 ⟨by omega, by omega⟩)
theorem drop_hd {s : Str} {n : Nat} (h : n < s.length) : ∃ c, s[n]? = some c ∧ s.drop n = c :: s.drop (n + 1) :=
  ⟨s[n], List.getElem?_eq_getElem h, by rw [List.drop_eq_getElem_cons h]⟩
theorem bits_at (x : Item) (c : UInt8) : idx ((List.range 256).map (inCls x)) (c.toNat : Int) = some (inCls x c.toNat) := by
  rw [ix]; simp [u8lt c]
theorem take_b1_eq {N : Nat} {x : Item} {s : Str} {n c : Nat} (hn : n ≤ s.length) (hl : s.length ≤ 1000000) (hc : c ≤ 1000000) :
    scan_take_b1 N x (bitsOf x) s n c = some (if x.Most < 0 ∨ (c : Int) < x.Most then (match hit x (s.drop n) with | some k => .inl (((n + k : Nat) : Int), ((c + 1 : Nat) : Int)) | none => .inr (.inr ((n : Int), decide ((c : Int) ≥ x.Least)))) else .inr (.inl ((n : Int), (c : Int)))) := by
  have hw : IntKind.wrap .i64 ((c + 1 : Nat) : Int) = ((c + 1 : Nat) : Int) := wrapN (by omega)
  have hw2 : ((c : Int) + 1) = ((c + 1 : Nat) : Int) := by omega
  by_cases h0 : x.Text = []
  · have e : (x.Text == ([] : Str)) = true := by rw [h0]; rfl
    have e2 : (x.Text != ([] : Str)) = false := by rw [h0]; rfl
    have hb : bitsOf x = some ((List.range 256).map (inCls x)) := by unfold bitsOf; rw [if_pos h0]
    have hh : hit x (s.drop n) = (match s.drop n with | [] => none | d :: _ => if inCls x d.toNat then some 1 else none) := by unfold hit; rw [if_pos h0]; cases s.drop n <;> rfl
    simp only [scan_take_b1, e, e2, cond_true, cond_false, hb, Option.bind_some, hw, hw2]
    have core : ∀ (A : Option ((Int × Int) ⊕ ((Int × Int) ⊕ (Int × Bool)))), A = some (match hit x (s.drop n) with | some k => .inl (((n + k : Nat) : Int), ((c + 1 : Nat) : Int)) | none => .inr (.inr ((n : Int), decide ((c : Int) ≥ x.Least)))) → (x.Most < 0 ∨ (c : Int) < x.Most) → A = some (if x.Most < 0 ∨ (c : Int) < x.Most then (match hit x (s.drop n) with | some k => .inl (((n + k : Nat) : Int), ((c + 1 : Nat) : Int)) | none => .inr (.inr ((n : Int), decide ((c : Int) ≥ x.Least)))) else .inr (.inl ((n : Int), (c : Int)))) := fun A h g => by rw [h, if_pos g]
    have inner : (bif decide ((n : Int) < (s.length : Int)) then
        (idx s n).bind fun c25 => (idx ((List.range 256).map (inCls x)) (c25.toNat : Int)).bind fun x37 =>
          bif x37 then some (.inl ((n : Int) + 1, ((c + 1 : Nat) : Int))) else some (.inr (.inr ((n : Int), decide ((c : Int) ≥ x.Least))))
        else some (.inr (.inr ((n : Int), decide ((c : Int) ≥ x.Least)))) : Option ((Int × Int) ⊕ ((Int × Int) ⊕ (Int × Bool)))) = some (match hit x (s.drop n) with | some k => .inl (((n + k : Nat) : Int), ((c + 1 : Nat) : Int)) | none => .inr (.inr ((n : Int), decide ((c : Int) ≥ x.Least)))) := by
      by_cases hlt : n < s.length
      · obtain ⟨d, hd, hdr⟩ := drop_hd hlt
        rw [hh, hdr, decide_eq_true (by omega)]
        simp only [cond_true, ixg hd, Option.bind_some, bits_at]
        cases inCls x d.toNat <;> rfl
      · rw [hh, List.drop_of_length_le (by omega), decide_eq_false (by omega)]
        rfl
    by_cases hm : x.Most < 0
    · rw [decide_eq_true hm]
      exact core _ inner (.inl hm)
    · rw [decide_eq_false hm]
      by_cases hm2 : (c : Int) < x.Most
      · rw [decide_eq_true hm2]
        exact core _ inner (.inr hm2)
      · rw [decide_eq_false hm2, if_neg (by omega)]
        rfl
  · have e : (x.Text == ([] : Str)) = false := by simpa using h0
    have e2 : (x.Text != ([] : Str)) = true := by simpa using h0
    have hh : hit x (s.drop n) = (if x.Text.isPrefixOf (s.drop n) then some x.Text.length else none) := by unfold hit; rw [if_neg h0]
    simp only [scan_take_b1, e, e2, cond_true, cond_false, slc_tail hn, Option.bind_some, hw, hw2, strings_HasPrefix, Lib.hasPrefix]
    have inner : (bif x.Text.isPrefixOf (s.drop n) then some (.inl (IntKind.wrap .i64 ((n : Int) + (x.Text.length : Int)), ((c + 1 : Nat) : Int))) else some (.inr (.inr ((n : Int), decide ((c : Int) ≥ x.Least)))) : Option ((Int × Int) ⊕ ((Int × Int) ⊕ (Int × Bool)))) = some (match hit x (s.drop n) with | some k => .inl (((n + k : Nat) : Int), ((c + 1 : Nat) : Int)) | none => .inr (.inr ((n : Int), decide ((c : Int) ≥ x.Least)))) := by
      rw [hh]
      cases hp : x.Text.isPrefixOf (s.drop n) with
      | true =>
        have := (List.isPrefixOf_iff_prefix.1 hp).length_le
        simp only [List.length_drop] at this
        simp only [cond_true, if_true]
        rw [show (n : Int) + (x.Text.length : Int) = ((n + x.Text.length : Nat) : Int) by omega, wrapN (by omega)]
      | false => simp
    by_cases hm : x.Most < 0
    · rw [decide_eq_true hm, if_pos (.inl hm)]
      exact inner
    · rw [decide_eq_false hm]
      by_cases hm2 : (c : Int) < x.Most
      · rw [decide_eq_true hm2, if_pos (.inr hm2)]
        exact inner
      · rw [decide_eq_false hm2, if_neg (by omega)]
        rfl
theorem scan_take_eq {N : Nat} {x : Item} {s : Str} (hl : s.length ≤ 1000000) (hN : s.length + 1 ≤ N) :
    scan_take N x (bitsOf x) s = some (((run x (s.length + 1) s 0).1 : Int), decide (((run x (s.length + 1) s 0).2 : Int) ≥ x.Least)) := by
  unfold scan_take
  have key : ∀ (f M n c : Nat), s.length - n < f → f ≤ M → n ≤ s.length → c ≤ n → ((iter (fun st : Int × Int => scan_take_b1 N x (bitsOf x) s st.1 st.2) M ((n : Int), (c : Int))).bind fun o9 =>
      Sum.elim (fun o9 : Int × Int => some (o9.1, (decide (o9.2 ≥ x.Least)))) (fun o9 : Int × Bool => some o9) o9) = some (((n + (run x f (s.drop n) c).1 : Nat) : Int), decide (((run x f (s.drop n) c).2 : Int) ≥ x.Least)) := by
    intro f
    induction f with
    | zero => intro M n c h; omega
    | succ f ih =>
      intro M n c hf hM hn hc
      obtain ⟨M, rfl⟩ : ∃ M', M = M' + 1 := ⟨M - 1, by omega⟩
      have hb := take_b1_eq (N := N) (x := x) (c := c) hn hl (by omega)
      unfold run
      by_cases hm : x.Most < 0 ∨ (c : Int) < x.Most
      · rw [if_pos hm] at hb ⊢
        cases hh : hit x (s.drop n) with
        | none =>
          rw [hh] at hb
          simp only [iter, hb, Option.bind_some, Sum.elim_inr]
          rfl
        | some k =>
          rw [hh] at hb
          have hk := hit_le hh
          simp only [List.length_drop] at hk
          simp only [iter, hb]
          have := ih M (n + k) (c + 1) (by omega) (by omega) (by omega) (by omega)
          rw [this]
          simp only [List.drop_drop, Nat.add_assoc]
      · rw [if_neg hm] at hb ⊢
        simp only [iter, hb, Option.bind_some, Sum.elim_inl]
        rfl
  have := key (s.length + 1) N 0 0 (by omega) hN (by omega) (by omega)
  simpa using this
theorem scan_match_eq {N : Nat} {l : List Item} {s : Str} (hs : l.length < N) (hl : s.length ≤ 1000000) (hN : s.length + 1 ≤ N) :
    scan_match N l (l.map bitsOf) s = some (match runs l s with | some n => ((n : Int), true) | none => (0, false)) := by
  unfold scan_match
  have key : ∀ (j k M n : Nat), k + j = l.length → j < M → n ≤ s.length → ((iter (fun st : Int × Int => scan_match_b1 N l (l.map bitsOf) s st.1 st.2) M ((n : Int), (k : Int))).bind fun o3 =>
      Sum.elim (fun o3 : Int => some (o3, true)) (fun o3 : Int × Bool => some o3) o3) = some (match runs (l.drop k) (s.drop n) with | some m => (((n + m : Nat) : Int), true) | none => (0, false)) := by
    intro j
    induction j with
    | zero =>
      intro k M n hk hM hn
      obtain ⟨M, rfl⟩ : ∃ M', M = M' + 1 := ⟨M - 1, by omega⟩
      obtain rfl : k = l.length := by omega
      simp only [iter, scan_match_b1, dn, cond_false, Option.bind_some, Sum.elim_inl, List.drop_length, runs]
      rfl
    | succ j ih =>
      intro k M n hk hM hn
      obtain ⟨M, rfl⟩ : ∃ M', M = M' + 1 := ⟨M - 1, by omega⟩
      have hkl : k < l.length := by omega
      obtain ⟨x, hx⟩ := at_lt hkl
      have hxe : l[k] = x := by rw [List.getElem?_eq_getElem hkl] at hx; exact Option.some.inj hx
      have hb : idx (l.map bitsOf) (k : Int) = some (bitsOf x) := by rw [ix, List.getElem?_map, hx]; rfl
      have ht := scan_take_eq (N := N) (x := x) (s := s.drop n) (by simp; omega) (by simp; omega)
      have hr := run_le x ((s.drop n).length + 1) (s.drop n) 0
      rw [List.drop_eq_getElem_cons hkl, hxe]
      simp only [runs]
      generalize hg : run x ((s.drop n).length + 1) (s.drop n) 0 = g at ht hr ⊢
      simp only [List.length_drop] at hr
      by_cases hc : (g.2 : Int) < x.Least
      · have hbd : scan_match_b1 N l (l.map bitsOf) s n k = some (.inr (.inr (0, false))) := by
          simp only [scan_match_b1, dk hkl, cond_true, ixg hx, hb, Option.bind_some, slc_tail hn, ht]
          rw [decide_eq_false (by omega)]
          rfl
        simp only [iter, hbd, if_pos hc]
        rfl
      · have hbd : scan_match_b1 N l (l.map bitsOf) s n k = some (.inl (((n + g.1 : Nat) : Int), ((k + 1 : Nat) : Int))) := by
          simp only [scan_match_b1, dk hkl, cond_true, ixg hx, hb, Option.bind_some, slc_tail hn, ht]
          rw [decide_eq_true (by omega)]
          simp only [Bool.not_true, cond_false]
          rw [show (n : Int) + (g.1 : Int) = ((n + g.1 : Nat) : Int) by omega, wrapN (by omega), show (k : Int) + 1 = ((k + 1 : Nat) : Int) by omega]
        simp only [iter, hbd, if_neg hc]
        have := ih (k + 1) M (n + g.1) (by omega) (by omega) (by omega)
        rw [this, List.drop_drop]
        cases runs (l.drop (k + 1)) (s.drop (n + g.1)) with
        | none => rfl
        | some m => simp only [Option.map_some, Nat.add_assoc]
  have := key l.length 0 N 0 (by omega) hs (by omega)
  simpa using this
end Go.Proofs.Ytmmioinglmeoiaa
namespace Go.Proofs.Ytmmioinglmeoiaa
open Go.X
end Go.Proofs.Ytmmioinglmeoiaa
namespace Go.Proofs.Ytmmioinglmeoiaa
open Go.X
def firstRule : List Rule → Str → Option (Rule × Nat)
  | [], _ => none
  | r :: rs, t => match runs r.Items t with | some n => if n = 0 then firstRule rs t else some (r, n) | none => firstRule rs t
theorem firstRule_of : ∀ {rs : List Rule} {t : Str} {r : Rule} {n : Nat}, firstRule rs t = some (r, n) → r ∈ rs ∧ 1 ≤ n ∧ n ≤ t.length := by
  intro rs
  induction rs with
  | nil => intro t r n h; cases h
  | cons q rs ih =>
    intro t r n h
    unfold firstRule at h
    cases hr : runs q.Items t with
    | none =>
      rw [hr] at h
      obtain ⟨h1, h2⟩ := ih h
      exact ⟨List.mem_cons_of_mem _ h1, h2⟩
    | some m =>
      rw [hr] at h
      simp only at h
      split at h
      · obtain ⟨h1, h2⟩ := ih h
        exact ⟨List.mem_cons_of_mem _ h1, h2⟩
      · cases h
        exact ⟨List.mem_cons_self .., by omega, runs_le _ _ _ hr⟩
theorem firstRule_app {rs : List Rule} (more : List Rule) {t : Str} {r : Rule} {n : Nat} (h : firstRule rs t = some (r, n)) : firstRule (rs ++ more) t = some (r, n) := by
  induction rs with
  | nil => cases h
  | cons q rs ih =>
    unfold firstRule at h
    simp only [List.cons_append]
    unfold firstRule
    cases hr : runs q.Items t with
    | none => rw [hr] at h; exact ih h
    | some m =>
      rw [hr] at h
      simp only at h ⊢
      split at h
      · rename_i h0; rw [if_pos h0]; exact ih h
      · rename_i h0; rw [if_neg h0]; exact h
def nextSt (s : List State) (st : Int) (r : Rule) : Int := if r.Next = [] then st else fst s r.Next
def prs : Nat → List State → List (Str × Int)
  | _, [] => []
  | k, x :: s => (x.Name, (k : Int)) :: prs (k + 1) s
theorem prs_app : ∀ (k : Nat) (s : List State) (x : State), prs k (s ++ [x]) = prs k s ++ [(x.Name, ((k + s.length : Nat) : Int))] := by
  intro k s
  induction s generalizing k with
  | nil => intro x; simp [prs]
  | cons y s ih =>
    intro x
    simp only [List.cons_append, prs, ih, List.length_cons]
    rw [show k + 1 + s.length = k + (s.length + 1) by omega]
theorem prs_get : ∀ (k : Nat) (s : List State) (n : Str), mget (prs k s) n = (s.findIdx? (fun y => y.Name == n)).map (fun i => ((k + i : Nat) : Int)) := by
  intro k s
  induction s generalizing k with
  | nil => intro n; rfl
  | cons y s ih =>
    intro n
    unfold mget at ih ⊢
    simp only [prs, List.find?_cons, List.findIdx?_cons]
    by_cases h : y.Name = n
    · subst h; simp
    · have e : (n == y.Name) = false := by simpa using fun h' => h h'.symm
      have e2 : (y.Name == n) = false := by simpa using h
      rw [e, e2]
      simp only [Bool.false_eq_true, if_false, ih, Option.map_map]
      congr 1
      funext i
      simp only [Function.comp]
      omega
theorem prs_key {k : Nat} {s : List State} {n : Str} (h : n ∉ s.map State.Name) : ∀ p ∈ prs k s, p.1 ≠ n := by
  induction s generalizing k with
  | nil => intro p hp; cases hp
  | cons y s ih =>
    intro p hp
    simp only [List.map_cons, List.mem_cons, not_or] at h
    rcases List.mem_cons.1 hp with rfl | hp
    · exact fun e => h.1 e.symm
    · exact ih h.2 p hp
theorem prs_len : ∀ (k : Nat) (s : List State), (prs k s).length = s.length := by
  intro k s
  induction s generalizing k with
  | nil => rfl
  | cons y s ih => simp [prs, ih]
def ltab (s : List State) : List (List (List (Option (List Bool)))) := s.map fun x => x.Rules.map fun r => r.Items.map bitsOf
theorem mput_new2 {l : List (Str × Int)} {n : Str} {v : Int} (h : ∀ p ∈ l, p.1 ≠ n) : mput l n v = l ++ [(n, v)] := by
  induction l with
  | nil => rfl
  | cons p l ih =>
    obtain ⟨a, b⟩ := p
    have e : (n == a) = false := by simpa using fun h' => h (a, b) (List.mem_cons_self ..) h'.symm
    unfold mput
    rw [e, ih fun q hq => h q (List.mem_cons_of_mem _ hq)]
    rfl
theorem lexerOf_eq {N : Nat} {s : List State} (hs : Sz N s) (hv : Vs s) (hN : 300 ≤ N) : scan_lexerOf N s = some (Lexer.mk s (ltab s) (prs 0 s)) := by
  unfold scan_lexerOf
  refine (iter_atB (fun k : Nat => ((k : Int), Lexer.mk s (ltab (s.take k)) (prs 0 (s.take k)))) s.length (Lexer.mk s (ltab s) (prs 0 s)) rfl hs.1 (fun k hk => ?_) ?_).trans rfl
  · obtain ⟨x, hx⟩ := at_lt hk
    have hm := List.mem_of_getElem? hx
    have hxe : s[k] = x := by rw [List.getElem?_eq_getElem hk] at hx; exact Option.some.inj hx
    have hl := hv.len
    have hr := hv.rules x hm
    have hnot : x.Name ∉ (s.take k).map State.Name := ((A1.take hx).1 ((Vs_iff.1 hv).2.1.sub (k + 1))).2.2
    simp only [scan_lexerOf_b1, dk hk, cond_true, ixg hx, Option.bind_some]
    have hset : mset (prs 0 (s.take k)) x.Name (k : Int) = some (prs 0 (s.take (k + 1))) := by
      unfold mset
      rw [if_pos (by rw [prs_len]; unfold LIM; simp; omega), mput_new2 (prs_key hnot), ← take1 hx, prs_app]
      rw [show 0 + (s.take k).length = k by simp; omega]
    rw [hset]
    simp only [Option.bind_some]
    have hrow : iter (fun st : List (List (Option (List Bool))) × Int => scan_lexerOf_b2 N x st.1 st.2) N ([], 0) = some (x.Rules.map fun r => r.Items.map bitsOf) := by
      refine iter_at (fun j : Nat => ((x.Rules.take j).map (fun r => r.Items.map bitsOf), (j : Int))) x.Rules.length _ rfl (fun j hj => ?_) ?_ N (hs.2 x hm).2.1
      · obtain ⟨r, hr'⟩ := at_lt hj
        have hrm := List.mem_of_getElem? hr'
        have hi := (hv.rl x hm r hrm).1.2.1
        simp only [scan_lexerOf_b2, dk hj, cond_true, ixg hr', Option.bind_some]
        rw [scan_classes_eq ((hs.2 x hm).2.2 r hrm).2.2 hN (by omega)]
        simp only [Option.bind_some]
        rw [app1 (by simp; omega), ← take1 hr']
        simp
      · simp [scan_lexerOf_b2]
    rw [hrow]
    simp only [Option.bind_some]
    rw [app1 (by simp [ltab]; omega), ← take1 hx]
    simp [ltab]
  · simp [scan_lexerOf_b1]
theorem states_get {s : List State} {n : Str} (h : n ∈ s.map State.Name) : (mget (prs 0 s) n).getD 0 = fst s n := by
  rw [prs_get]
  unfold fst
  cases hf : s.findIdx? (fun y => y.Name == n) with
  | none =>
    obtain ⟨y, hy, e⟩ := List.mem_map.1 h
    have := List.findIdx?_eq_none_iff.1 hf y hy
    simp [e] at this
  | some i => simp
def stepN (s : List State) (st : Nat) (t : Str) (at' : Nat) : Option (Token × Int) :=
  match s[st]? with
  | none => none
  | some x => match firstRule x.Rules (t.drop at') with
    | some (r, n) => some (Token.mk r.Kind ((t.drop at').take n) at', nextSt s st r)
    | none => none
theorem ltab_at {s : List State} {st : Nat} {x : State} (h : s[st]? = some x) : idx (ltab s) (st : Int) = some (x.Rules.map fun r => r.Items.map bitsOf) := by
  rw [ix]; unfold ltab; rw [List.getElem?_map, h]; rfl
theorem neE (w : Str) : (w != ([] : Str)) = !decide (w = []) := by by_cases h : w = [] <;> simp [h]
theorem lexer_step_eq {N : Nat} {s : List State} {t : Str} {st p : Nat} (hs : Sz N s) (hv : Vs s) (hst : st < s.length) (hp : p ≤ t.length) (ht : t.length ≤ 1000000) (hN : 300 ≤ N) (hN2 : t.length + 1 ≤ N) :
    scan_lexer_step N st t p (Lexer.mk s (ltab s) (prs 0 s)) = some (match stepN s st t p with | some (k, n) => (k, n, true) | none => (Token.mk [] [] 0, 0, false)) := by
  obtain ⟨x, hx⟩ := at_lt hst
  have hm := List.mem_of_getElem? hx
  unfold scan_lexer_step
  simp only [ixg hx, Option.bind_some]
  have key : ∀ (j k M : Nat), k + j = x.Rules.length → j < M → ((iter (fun a : Int × Int => scan_lexer_step_b1 N t p (Lexer.mk s (ltab s) (prs 0 s)) x a.1 a.2) M ((st : Int), (k : Int))).bind fun o24 =>
      Sum.elim (fun _o24 : Unit => some ((Token.mk ([]) ([]) 0), (0 : Int), false)) (fun o24 : Token × Int × Bool => some o24) o24) = some (match firstRule (x.Rules.drop k) (t.drop p) with | some (r, n) => (Token.mk r.Kind ((t.drop p).take n) p, nextSt s st r, true) | none => (Token.mk [] [] 0, 0, false)) := by
    intro j
    induction j with
    | zero =>
      intro k M hk hM
      obtain ⟨M, rfl⟩ : ∃ M', M = M' + 1 := ⟨M - 1, by omega⟩
      obtain rfl : k = x.Rules.length := by omega
      have hb : scan_lexer_step_b1 N t p (Lexer.mk s (ltab s) (prs 0 s)) x st x.Rules.length = some (.inr (.inl ())) := by simp only [scan_lexer_step_b1, dn, cond_false]
      simp only [iter, hb, List.drop_length, firstRule]
      rfl
    | succ j ih =>
      intro k M hk hM
      obtain ⟨M, rfl⟩ : ∃ M', M = M' + 1 := ⟨M - 1, by omega⟩
      have hkl : k < x.Rules.length := by omega
      obtain ⟨r, hr⟩ := at_lt hkl
      have hre : x.Rules[k] = r := by rw [List.getElem?_eq_getElem hkl] at hr; exact Option.some.inj hr
      have hrm := List.mem_of_getElem? hr
      have hz := ((hs.2 x hm).2.2 r hrm).2.2
      have hrow : idx (x.Rules.map fun r => r.Items.map bitsOf) (k : Int) = some (r.Items.map bitsOf) := by rw [ix, List.getElem?_map, hr]; rfl
      have hmt := scan_match_eq (N := N) (l := r.Items) (s := t.drop p) hz.1 (by simp; omega) (by simp; omega)
      have hnx := (hv.rl x hm r hrm).2
      rw [List.drop_eq_getElem_cons hkl, hre]
      unfold firstRule
      have hgo : scan_lexer_step_b1 N t p (Lexer.mk s (ltab s) (prs 0 s)) x st k = some (match runs r.Items (t.drop p) with | some n => if n = 0 then .inl ((st : Int), ((k + 1 : Nat) : Int)) else .inr (.inr (Token.mk r.Kind ((t.drop p).take n) p, nextSt s st r, true)) | none => .inl ((st : Int), ((k + 1 : Nat) : Int))) := by
        simp only [scan_lexer_step_b1, dk hkl, cond_true, ixg hr, Option.bind_some, ltab_at hx, hrow, slc_tail hp, hmt]
        cases hru : runs r.Items (t.drop p) with
        | none => rfl
        | some n =>
          have hle := runs_le _ _ _ hru
          simp only [List.length_drop] at hle
          simp only [Bool.not_true, cond_false]
          by_cases h0 : n = 0
          · subst h0; rfl
          · have e : (((n : Int)) == 0) = false := by rw [beq_eq_false_iff_ne]; omega
            rw [e, if_neg h0, neE]
            simp only [cond_false]
            rw [show (p : Int) + (n : Int) = ((p + n : Nat) : Int) by omega, wrapN (by omega), show ((p + n : Nat) : Int) = (p : Int) + (n : Int) by omega, slc_mid (by omega)]
            unfold nextSt
            by_cases h1 : r.Next = []
            · simp [h1]
            · have := states_get (hnx.resolve_left h1)
              simp [h1, this]
      cases hru : runs r.Items (t.drop p) with
      | none =>
        rw [hru] at hgo
        simp only [iter, hgo]
        exact ih (k + 1) M (by omega) (by omega)
      | some n =>
        rw [hru] at hgo
        by_cases h0 : n = 0
        · simp only [if_pos h0] at hgo ⊢
          simp only [iter, hgo]
          exact ih (k + 1) M (by omega) (by omega)
        · simp only [if_neg h0] at hgo ⊢
          simp only [iter, hgo]
          rfl
  have := key x.Rules.length 0 N (by omega) (hs.2 x hm).2.1
  refine this.trans ?_
  unfold stepN
  rw [hx, List.drop_zero]
  simp only
  cases firstRule x.Rules (t.drop p) with
  | none => rfl
  | some q => rfl
def tks (s : List State) (t : Str) : Nat → Nat → Nat → (Nat ⊕ List Token)
  | 0, _, _ => .inr []
  | f + 1, p, st => if t.length ≤ p then .inr [] else match stepN s st t p with
    | some (k, n) => (match tks s t f (p + k.Text.length) n.toNat with | .inr l => .inr (k :: l) | .inl e => .inl e)
    | none => .inl p
theorem fst_range {s : List State} {n : Str} (h : n ∈ s.map State.Name) : 0 ≤ fst s n ∧ fst s n < (s.length : Int) := by
  have h1 : ¬fst s n < 0 := fun g => fst_mem.1 g h
  refine ⟨by omega, ?_⟩
  unfold fst at h1 ⊢
  cases hf : s.findIdx? (fun y => y.Name == n) with
  | none => rw [hf] at h1; simp only at h1 ⊢; omega
  | some k =>
    obtain ⟨hk, _⟩ := List.findIdx?_eq_some_iff_getElem.1 hf
    simp only; omega
theorem stepN_of {s : List State} (hv : Vs s) {st : Nat} {t : Str} {p : Nat} {k : Token} {n : Int} (h : stepN s st t p = some (k, n)) :
    k.From = (p : Int) ∧ 1 ≤ k.Text.length ∧ p + k.Text.length ≤ t.length ∧ k.Text = (t.drop p).take k.Text.length ∧ 0 ≤ n ∧ n < (s.length : Int) := by
  unfold stepN at h
  cases hx : s[st]? with
  | none => rw [hx] at h; cases h
  | some x =>
    rw [hx] at h
    simp only at h
    cases hf : firstRule x.Rules (t.drop p) with
    | none => rw [hf] at h; cases h
    | some q =>
      obtain ⟨r, m⟩ := q
      rw [hf] at h
      simp only [Option.some.injEq, Prod.mk.injEq] at h
      obtain ⟨rfl, rfl⟩ := h
      obtain ⟨h1, h2, h3⟩ := firstRule_of hf
      simp only [List.length_drop] at h3
      have hl : ((t.drop p).take m).length = m := by simp; omega
      have hm := List.mem_of_getElem? hx
      simp only [hl]
      refine ⟨trivial, h2, by omega, trivial, ?_⟩
      unfold nextSt
      split
      · have := getlt hx; omega
      · rename_i h0
        exact fst_range ((hv.rl x hm r h1).2.resolve_left h0)
theorem tks_eq {s : List State} {t : Str} {N : Nat} (hv : Vs s) (ht : t.length ≤ 1000000) (body : List Token × Int × Int → Option ((List Token × Int × Int) ⊕ (List Token ⊕ (List Token × Int × Int))))
    (h1 : ∀ (l : List Token) (p st : Nat), p < t.length → st < s.length → l.length ≤ p → body (l, (p : Int), (st : Int)) = some (match stepN s st t p with | some (k, n) => .inl (l ++ [k], ((p + k.Text.length : Nat) : Int), n) | none => .inr (.inr ([], (p : Int), 3))))
    (h2 : ∀ (l : List Token) (st : Int), body (l, (t.length : Int), st) = some (.inr (.inl l))) (h0 : 0 < s.length) (hN : t.length + 1 ≤ N) :
    ((iter body N ([], 0, 0)).bind fun o : List Token ⊕ (List Token × Int × Int) => Sum.elim (fun o => some (o, (0 : Int), (0 : Int))) (fun o => some o) o) = some (match tks s t (t.length + 1) 0 0 with | .inr l => (l, 0, 0) | .inl e => ([], (e : Int), 3)) := by
  have key : ∀ (f M p st : Nat) (l : List Token), t.length - p < f → f ≤ M → p ≤ t.length → st < s.length → l.length ≤ p → ((iter body M (l, (p : Int), (st : Int))).bind fun o : List Token ⊕ (List Token × Int × Int) => Sum.elim (fun o => some (o, (0 : Int), (0 : Int))) (fun o => some o) o) = some (match tks s t f p st with | .inr l' => (l ++ l', 0, 0) | .inl e => ([], (e : Int), 3)) := by
    intro f
    induction f with
    | zero => intro M p st l h; omega
    | succ f ih =>
      intro M p st l hf hM hp hst hl
      obtain ⟨M, rfl⟩ : ∃ M', M = M' + 1 := ⟨M - 1, by omega⟩
      unfold tks
      by_cases he : t.length ≤ p
      · obtain rfl : p = t.length := by omega
        rw [if_pos he]
        simp only [iter, h2, List.append_nil]
        rfl
      · rw [if_neg he]
        have hb := h1 l p st (by omega) hst hl
        cases hq : stepN s st t p with
        | none =>
          rw [hq] at hb
          simp only [iter, hb]
          rfl
        | some q =>
          obtain ⟨k, n⟩ := q
          rw [hq] at hb
          obtain ⟨_, g2, g3, _, g5, g6⟩ := stepN_of hv hq
          obtain ⟨n, rfl⟩ : ∃ m : Nat, n = (m : Int) := ⟨n.toNat, by omega⟩
          simp only at hb ⊢
          simp only [iter, hb, Int.toNat_natCast]
          have := ih M (p + k.Text.length) n (l ++ [k]) (by omega) (by omega) (by omega) (by omega) (by simp; omega)
          rw [this]
          cases tks s t f (p + k.Text.length) n with
          | inl e => rfl
          | inr l' => simp
  have := key (t.length + 1) N 0 0 [] (by omega) hN (by omega) h0 (by simp)
  simpa using this
def tokR (s : List State) (t : Str) : List Token × Int × Int := match tks s t (t.length + 1) 0 0 with | .inr l => (l, 0, 0) | .inl e => ([], (e : Int), 3)
theorem scan_Tokens_ok {N : Nat} {s : List State} {t : Str} (hs : Sz N s) (hb : Sb s) (hv : Vl s) (ht : t.length ≤ 10000) (hN : 300 ≤ N) (hN2 : t.length + 1 ≤ N) :
    scan_Tokens N s t = some (tokR s t) := by
  unfold scan_Tokens
  rcases (scan_Valid_eq hs hb (by omega)).cases with ⟨h, _⟩ | ⟨_, h⟩
  rotate_left
  · exact absurd hv h
  rw [h]
  simp only [Option.bind_some, Bool.not_true, cond_false]
  rw [decide_eq_false (by omega)]
  simp only [cond_false, lexerOf_eq hs hv.1 hN, Option.bind_some]
  refine tks_eq hv.1 (by omega) _ (fun l p st hp hst hl => ?_) (fun l st => ?_) (by have := hv.1.len; omega) hN2
  · simp only [scan_Tokens_b1, dk hp, cond_true, lexer_step_eq hs hv.1 hst (by omega : p ≤ t.length) (by omega : t.length ≤ 1000000) hN hN2, Option.bind_some]
    cases hq : stepN s st t p with
    | none => rfl
    | some q =>
      obtain ⟨k, n⟩ := q
      obtain ⟨_, g2, g3, _⟩ := stepN_of hv.1 hq
      simp only [Bool.not_true, cond_false]
      rw [app1 (by simp; omega), show (p : Int) + (k.Text.length : Int) = ((p + k.Text.length : Nat) : Int) by omega, wrapN (by omega)]
      rfl
  · simp only [scan_Tokens_b1, dn, cond_false]
end Go.Proofs.Ytmmioinglmeoiaa
namespace Go.Proofs.Ytmmioinglmeoiaa
open Go.X
theorem tok_same {x : Token} : ((x.Kind == x.Kind) && ((x.Text == x.Text) && (x.From == x.From))) = true := by simp
theorem tks_len {s : List State} {t : Str} : ∀ (f p st : Nat) (l : List Token), tks s t f p st = .inr l → l.length ≤ f := by
  intro f
  induction f with
  | zero => intro p st l h; cases h; simp
  | succ f ih =>
    intro p st l h
    unfold tks at h
    split at h
    · cases h; simp
    · cases hq : stepN s st t p with
      | none => rw [hq] at h; cases h
      | some q =>
        obtain ⟨k, n⟩ := q
        rw [hq] at h
        simp only at h
        cases hr : tks s t f (p + k.Text.length) n.toNat with
        | inl e => rw [hr] at h; cases h
        | inr l' =>
          rw [hr] at h
          cases h
          have := ih _ _ _ hr
          simp; omega
def wide (x : State) (m : Rule) : State := State.mk x.Name (x.Rules ++ [m])
theorem fst_wide (x : State) (m : Rule) (s : List State) (n : Str) : fst (wide x m :: s) n = fst (x :: s) n := by
  unfold fst
  simp only [List.findIdx?_cons, wide]
theorem stepN_wide {x : State} {m : Rule} {s : List State} {st : Nat} {t : Str} {p : Nat} {q : Token × Int} (h : stepN (x :: s) st t p = some q) : stepN (wide x m :: s) st t p = some q := by
  unfold stepN at h ⊢
  cases st with
  | zero =>
    simp only [List.getElem?_cons_zero] at h ⊢
    cases hf : firstRule x.Rules (t.drop p) with
    | none => rw [hf] at h; cases h
    | some a =>
      obtain ⟨r, k⟩ := a
      rw [hf] at h
      rw [show (wide x m).Rules = x.Rules ++ [m] from rfl, firstRule_app [m] hf]
      simp only [nextSt, fst_wide] at h ⊢
      exact h
  | succ st =>
    simp only [List.getElem?_cons_succ] at h ⊢
    cases hy : s[st]? with
    | none => rw [hy] at h; cases h
    | some y =>
      rw [hy] at h
      simp only at h ⊢
      cases hf : firstRule y.Rules (t.drop p) with
      | none => rw [hf] at h; cases h
      | some a =>
        obtain ⟨r, k⟩ := a
        rw [hf] at h
        simp only [nextSt, fst_wide] at h ⊢
        exact h
theorem tks_wide {x : State} {m : Rule} {s : List State} {t : Str} : ∀ (f p st : Nat) (l : List Token), tks (x :: s) t f p st = .inr l → tks (wide x m :: s) t f p st = .inr l := by
  intro f
  induction f with
  | zero => intro p st l h; cases h; rfl
  | succ f ih =>
    intro p st l h
    unfold tks at h ⊢
    split at h
    · rename_i g; rw [if_pos g]; exact h
    · rename_i g
      rw [if_neg g]
      cases hq : stepN (x :: s) st t p with
      | none => rw [hq] at h; cases h
      | some q =>
        obtain ⟨k, n⟩ := q
        rw [hq] at h
        rw [stepN_wide hq]
        simp only at h ⊢
        cases hr : tks (x :: s) t f (p + k.Text.length) n.toNat with
        | inl e => rw [hr] at h; cases h
        | inr l' =>
          rw [hr] at h
          rw [ih _ _ _ hr]
          exact h
theorem scanFirst_law (s : List State) (m : Rule) (t : Str) (h : ScOk s) (hm : RlOk m) (ht : t.length ≤ reachBytes) : ∃ N, calquelaw44_ScanFirst N s m t = some true := by
  obtain ⟨n, hn⟩ : ∃ n, n = sz s + szR m + t.length + 10 := ⟨_, rfl⟩
  refine ⟨n + 300, ?_⟩
  have hz : Sz (n + 300) s := Sz.of (by omega)
  unfold calquelaw44_ScanFirst
  simp only [awake_true, Option.bind_some, Bool.not_true, cond_false]
  obtain ⟨b, hb⟩ := Few_some hz
  simp only [hb, Option.bind_some]
  cases b with
  | false => rfl
  | true =>
    simp only [Bool.not_true, cond_false]
    rcases (ref_Valid_eq hz h.sb (by omega)).cases with ⟨hg, hv⟩ | ⟨hg, _⟩
    rotate_left
    · rw [hg]; rfl
    rw [hg]
    simp only [Option.bind_some, Bool.not_true, cond_false]
    by_cases h2 : (t.length : Int) > 300
    · rw [decide_eq_true h2]; rfl
    rw [decide_eq_false h2]
    have hl := hv.1.len
    obtain ⟨x, s, rfl⟩ : ∃ x r, s = x :: r := by
      cases s with
      | nil => simp at hl
      | cons x r => exact ⟨x, r, rfl⟩
    have hxr := hv.1.rules x (List.mem_cons_self ..)
    have hi : ∀ y : State, idx (y :: s) 0 = some y := fun y => rfl
    have hse : setI (x :: s) 0 (State.mk x.Name (x.Rules ++ [m])) = some (wide x m :: s) := by
      unfold setI; rw [if_pos (by simp)]; rfl
    simp only [cond_false]
    rw [app1 (by simp at hl ⊢; omega)]
    simp only [Option.bind_some, List.nil_append, hi]
    rw [app1 (by simp; omega)]
    simp only [Option.bind_some, List.nil_append]
    rw [app1 (by simp; omega)]
    simp only [Option.bind_some, hse]
    have hz2 : Sz (n + 300) (wide x m :: s) := by
      refine ⟨hz.1, fun y hy => ?_⟩
      rcases List.mem_cons.1 hy with rfl | hy
      · refine ⟨(hz.2 x (List.mem_cons_self ..)).1, by simp [wide]; omega, fun r hr => ?_⟩
        rcases List.mem_append.1 hr with hr | hr
        · exact (hz.2 x (List.mem_cons_self ..)).2.2 r hr
        · rw [List.mem_singleton.1 hr]
          exact SzR.of (by omega)
      · exact hz.2 y (List.mem_cons_of_mem _ hy)
    obtain ⟨b2, hb2⟩ := Few_some hz2
    rw [hb2]
    simp only [Option.bind_some]
    cases b2 with
    | false => rfl
    | true =>
      simp only [Bool.not_true, cond_false]
      have hok : ScOk (wide x m :: s) := by
        refine ⟨h.1, fun y hy => ?_⟩
        rcases List.mem_cons.1 hy with rfl | hy
        · have hx := h.2 x (List.mem_cons_self ..)
          refine ⟨hx.1, by simp [wide, reachBytes]; omega, fun r hr => ?_⟩
          rcases List.mem_append.1 hr with hr | hr
          · exact hx.2.2 r hr
          · rw [List.mem_singleton.1 hr]; exact hm
        · exact h.2 y (List.mem_cons_of_mem _ hy)
      rcases (ref_Valid_eq hz2 hok.sb (by omega)).cases with ⟨hg2, hv2⟩ | ⟨hg2, _⟩
      rotate_left
      · rw [hg2]; rfl
      rw [hg2]
      simp only [Option.bind_some, Bool.not_true, cond_false, Own_eq h hz, Own_eq hok hz2]
      rw [scan_Tokens_ok hz h.sb hv (by omega) (by omega) (by omega), scan_Tokens_ok hz2 hok.sb hv2 (by omega) (by omega) (by omega)]
      unfold tokR
      simp only [Option.bind_some]
      cases hk : tks (x :: s) t (t.length + 1) 0 0 with
      | inl e => rfl
      | inr l =>
        rw [tks_wide _ _ _ _ hk]
        have hlen := tks_len _ _ _ _ hk
        have e0 : ((0 : Int) != 0) = false := rfl
        have e1 : ((l.length : Int) != (l.length : Int)) = false := by simp
        simp only [e0, e1, cond_false]
        refine (iter_atB (fun k : Nat => (k : Int)) l.length (.inl ()) rfl (by omega) (fun k hk => ?_) ?_).trans rfl
        · obtain ⟨y, hy⟩ := at_lt hk
          simp only [calquelaw44_ScanFirst_b1, dk hk, cond_true, ixg hy, Option.bind_some, tok_same, Bool.not_true, cond_false]
          rfl
        · simp only [calquelaw44_ScanFirst_b1, dn, cond_false]
end Go.Proofs.Ytmmioinglmeoiaa
