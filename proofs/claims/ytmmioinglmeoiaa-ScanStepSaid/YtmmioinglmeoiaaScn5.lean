/- Chapter 44: whole scripts: both validities are the same. -/
import Derived.Test.YtmmioinglmeoiaaScn4
set_option linter.unusedVariables false
namespace Go.Proofs.Ytmmioinglmeoiaa
open Go.X

theorem mget_map {s : List State} {n : Str} : mget (s.map fun x => (x.Name, true)) n = if n ∈ s.map State.Name then some true else none := by
  induction s with
  | nil => rfl
  | cons x s ih =>
    simp only [List.map_cons, mget, List.find?_cons, List.mem_cons] at ih ⊢
    by_cases h : n = x.Name
    · subst h; simp
    · have : (n == x.Name) = false := by simpa using h
      simp only [this, h, false_or]
      exact ih
theorem mset_new {s : List State} {n : Str} (h : n ∉ s.map State.Name) (hl : s.length ≤ 100) : mset (s.map fun x => (x.Name, true)) n true = some (s.map (fun x => (x.Name, true)) ++ [(n, true)]) := by
  unfold mset
  rw [if_pos (by unfold LIM; simp; omega), mput_new]
  intro p hp e
  obtain ⟨x, hx, rfl⟩ := List.mem_map.1 hp
  exact h (List.mem_map.2 ⟨x, hx, e⟩)
/-- What the first loop asks. -/
def A1 (s : List State) : Prop := (∀ x ∈ s, word x.Name = true ∧ 1 ≤ x.Rules.length ∧ x.Rules.length ≤ 40) ∧ (s.map State.Name).Nodup
def A2 (s : List State) : Prop := ∀ x ∈ s, ∀ r ∈ x.Rules, RlP r ∧ (r.Next = [] ∨ r.Next ∈ s.map State.Name)
theorem Vs_iff {s : List State} : Vs s ↔ (1 ≤ s.length ∧ s.length ≤ 20) ∧ A1 s ∧ A2 s :=
  ⟨fun h => ⟨h.len, ⟨fun x hx => ⟨h.name x hx, h.rules x hx⟩, h.nd⟩, h.rl⟩, fun ⟨h1, h2, h3⟩ => ⟨h1, fun x hx => (h2.1 x hx).1, fun x hx => (h2.1 x hx).2, h3, h2.2⟩⟩
theorem A1.take {s : List State} {k : Nat} {x : State} (hx : s[k]? = some x) : A1 (s.take (k + 1)) ↔ A1 (s.take k) ∧ (word x.Name = true ∧ 1 ≤ x.Rules.length ∧ x.Rules.length ≤ 40) ∧ x.Name ∉ (s.take k).map State.Name := by
  unfold A1
  rw [← take1 hx]
  simp only [List.mem_append, List.mem_singleton, List.map_append, List.map_cons, List.map_nil, List.nodup_append]
  constructor
  · rintro ⟨h1, h2, _, h3⟩
    exact ⟨⟨fun y hy => h1 y (.inl hy), h2⟩, h1 x (.inr rfl), fun h => h3 _ h _ rfl rfl⟩
  · rintro ⟨⟨h1, h2⟩, h3, h4⟩
    refine ⟨fun y hy => ?_, h2, by simp, fun a ha b hb e => ?_⟩
    · rcases hy with hy | rfl
      · exact h1 y hy
      · exact h3
    · subst hb; subst e; exact h4 ha
theorem A1.sub {s : List State} (k : Nat) (h : A1 s) : A1 (s.take k) :=
  ⟨fun x hx => h.1 x (List.mem_of_mem_take hx), h.2.sublist ((List.take_sublist _ _).map _)⟩
theorem scan_loop1 {N : Nat} {s : List State} (hs : Sz N s) (hl : s.length ≤ 20) :
    (iter (fun st : Int × List (Str × Bool) => scan_Valid_b1 N s st.1 st.2) N (0, []) = some (.inl (s.map fun x => (x.Name, true))) ∧ A1 s) ∨ (iter (fun st : Int × List (Str × Bool) => scan_Valid_b1 N s st.1 st.2) N (0, []) = some (.inr false) ∧ ¬A1 s) := by
  obtain ⟨b, h1, h2⟩ := iter_indE (body := fun st : Int × List (Str × Bool) => scan_Valid_b1 N s st.1 st.2) (fun i st => st = ((i : Int), (s.take i).map fun x => (x.Name, true)) ∧ A1 (s.take i)) s.length
    (fun b => (b = .inl (s.map fun x => (x.Name, true)) ∧ A1 s) ∨ (b = .inr false ∧ ¬A1 s)) (fun i st hi ⟨hst, hA⟩ => by
    subst hst
    obtain ⟨x, hx⟩ := at_lt hi
    have hz := hs.2 x (List.mem_of_getElem? hx)
    have bad : ¬A1 (s.take (i + 1)) → ∃ b : List (Str × Bool) ⊕ Bool, (some (.inr (.inr false)) : Option ((Int × List (Str × Bool)) ⊕ (List (Str × Bool) ⊕ Bool))) = some (.inr b) ∧ ((b = .inl (s.map fun x => (x.Name, true)) ∧ A1 s) ∨ (b = .inr false ∧ ¬A1 s)) := fun h => ⟨_, rfl, .inr ⟨rfl, fun g => h (g.sub _)⟩⟩
    rw [A1.take hx] at bad
    simp only [scan_Valid_b1, dk hi, cond_true, ixg hx, Option.bind_some, scan_word_eq hz.1]
    cases hw : word x.Name with
    | false => exact .inr (bad (fun h => by have := h.2.1.1; rw [hw] at this; cases this))
    | true =>
      simp only [Bool.not_true, cond_false, mget_map]
      by_cases hm : x.Name ∈ (s.take i).map State.Name
      · rw [if_pos hm]
        exact .inr (bad (fun h => h.2.2 hm))
      · rw [if_neg hm]
        simp only [Option.getD_none, cond_false]
        rw [show (1 : Int) = ((1 : Nat) : Int) from rfl, show (40 : Int) = ((40 : Nat) : Int) from rfl]
        by_cases h1 : x.Rules.length < 1
        · rw [decide_eq_true (by omega)]
          exact .inr (bad (fun h => by have := h.2.1.2.1; omega))
        · rw [decide_eq_false (by omega)]
          by_cases h2 : x.Rules.length > 40
          · rw [decide_eq_true (by omega)]
            exact .inr (bad (fun h => by have := h.2.1.2.2; omega))
          · rw [decide_eq_false (by omega)]
            simp only [cond_false]
            rw [mset_new hm (by simp; omega)]
            refine .inl ⟨_, rfl, ?_, ?_⟩
            · rw [← take1 hx]; simp
            · rw [A1.take hx]; exact ⟨hA, ⟨hw, by omega, by omega⟩, hm⟩) (fun st ⟨hst, hA⟩ => by
    subst hst
    rw [List.take_length] at hA ⊢
    exact ⟨_, by simp only [scan_Valid_b1, dn, cond_false], .inl ⟨rfl, hA⟩⟩) N (0, []) hs.1 ⟨by simp, by unfold A1; simp⟩
  rcases h2 with ⟨rfl, h⟩ | ⟨rfl, h⟩
  · exact .inl ⟨h1, h⟩
  · exact .inr ⟨h1, h⟩
theorem scan_rules {N : Nat} {s : List State} (hA : A1 s) {x : State} (hx : SzS N x) :
    (iter (fun st => scan_Valid_b3 N (s.map fun x => (x.Name, true)) x st) N 0 = some (.inl ()) ∧ ∀ r ∈ x.Rules, RlP r ∧ (r.Next = [] ∨ r.Next ∈ s.map State.Name)) ∨ (iter (fun st => scan_Valid_b3 N (s.map fun x => (x.Name, true)) x st) N 0 = some (.inr false) ∧ ¬∀ r ∈ x.Rules, RlP r ∧ (r.Next = [] ∨ r.Next ∈ s.map State.Name)) := by
  have hw : ∀ n ∈ s.map State.Name, word n = true := fun n hn => by
    obtain ⟨y, hy, rfl⟩ := List.mem_map.1 hn
    exact (hA.1 y hy).1
  refine iter_allP (fun r : Rule => RlP r ∧ (r.Next = [] ∨ r.Next ∈ s.map State.Name)) x.Rules hx.2.1 (fun k r hr => ?_) (by simp only [scan_Valid_b3, dn, cond_false])
  simp only [scan_Valid_b3, dk (getlt hr), cond_true, ixg hr, Option.bind_some, neN]
  rcases (scan_sound_eq (hx.2.2 r (List.mem_of_getElem? hr))).cases with ⟨h, p⟩ | ⟨h, p⟩
  · rw [h]
    simp only [Option.bind_some, Bool.not_true, cond_false]
    by_cases h0 : r.Next = []
    · rw [decide_eq_true h0]
      exact .inl ⟨⟨p.1, .inl h0⟩, rfl⟩
    · rw [decide_eq_false h0]
      simp only [Bool.not_false, cond_true, mget_map]
      by_cases hm : r.Next ∈ s.map State.Name
      · rw [if_pos hm]
        exact .inl ⟨⟨p.1, .inr hm⟩, rfl⟩
      · rw [if_neg hm]
        exact .inr ⟨fun h => by rcases h.2 with h | h; exact h0 h; exact hm h, rfl⟩
  · rw [h]
    refine .inr ⟨fun q => p ⟨q.1, ?_⟩, rfl⟩
    rcases q.2 with h | h
    · exact .inl h
    · exact .inr (hw _ h)
theorem scan_loop2 {N : Nat} {s : List State} (hA : A1 s) (hs : Sz N s) :
    (iter (fun st => scan_Valid_b2 N s (s.map fun x => (x.Name, true)) st) N 0 = some (.inl ()) ∧ A2 s) ∨ (iter (fun st => scan_Valid_b2 N s (s.map fun x => (x.Name, true)) st) N 0 = some (.inr false) ∧ ¬A2 s) := by
  refine iter_allP (fun x : State => ∀ r ∈ x.Rules, RlP r ∧ (r.Next = [] ∨ r.Next ∈ s.map State.Name)) s hs.1 (fun k x hx => ?_) (by simp only [scan_Valid_b2, dn, cond_false])
  simp only [scan_Valid_b2, dk (getlt hx), cond_true, ixg hx, Option.bind_some]
  rcases scan_rules hA (hs.2 x (List.mem_of_getElem? hx)) with ⟨h, p⟩ | ⟨h, p⟩
  · rw [h]; exact .inl ⟨p, rfl⟩
  · rw [h]; exact .inr ⟨p, rfl⟩
def Vl (s : List State) : Prop := Vs s ∧ (textT s).length ≤ 8000
def Sb (s : List State) : Prop := ∀ x ∈ s, ∀ r ∈ x.Rules, ∀ y ∈ r.Items, InB y
theorem ScOk.sb {s : List State} (h : ScOk s) : Sb s := fun x hx r hr y hy => (((h.2 x hx).2.2 r hr).2.1.2 y hy).2.1.2
theorem scan_Valid_eq {N : Nat} {s : List State} (hs : Sz N s) (hb : Sb s) (hN : 100 ≤ N) : Tells (scan_Valid N s) (Vl s) := by
  unfold scan_Valid
  by_cases h1 : s.length < 1
  · rw [decide_eq_true (by omega)]
    exact .no rfl (fun h => by have := h.1.len; omega)
  rw [decide_eq_false (by omega)]
  by_cases h2 : s.length > 20
  · rw [decide_eq_true (by omega)]
    exact .no rfl (fun h => by have := h.1.len; omega)
  rw [decide_eq_false (by omega)]
  simp only [cond_false]
  rcases scan_loop1 hs (by omega) with ⟨h, hA⟩ | ⟨h, hA⟩
  · rw [h]
    simp only [Option.bind_some, Sum.elim_inl]
    rcases scan_loop2 hA hs with ⟨h, hB⟩ | ⟨h, hB⟩
    · rw [h]
      simp only [Option.bind_some, Sum.elim_inl]
      have hv : Vs s := Vs_iff.2 ⟨by omega, hA, hB⟩
      rw [scan_text_eq hv hb hN]
      simp only [Option.bind_some]
      rw [show (8000 : Int) = ((8000 : Nat) : Int) from rfl, lenb]
      exact Tells.dec.iff ⟨fun h => ⟨hv, h⟩, fun h => h.2⟩
    · rw [h]
      exact .no rfl (fun h => hB (Vs_iff.1 h.1).2.2)
  · rw [h]
    exact .no rfl (fun h => hA (Vs_iff.1 h.1).2.1)

/-! ### the reference -/
/-- The place of the first state with a name. -/
def fst (s : List State) (n : Str) : Int := match s.findIdx? (fun y => y.Name == n) with | some k => (k : Int) | none => -1
theorem Index_eq {N : Nat} {s : List State} (n : Str) (hN : s.length < N) : calqueref44_Index N s n = some (fst s n) := by
  unfold calqueref44_Index
  have st : ∀ (k : Nat) y, s[k]? = some y → calqueref44_Index_b1 N s n k = some (if y.Name == n then .inr (.inr (k : Int)) else .inl ((k : Int) + 1)) := fun k y hy => by
    simp only [calqueref44_Index_b1, dk (getlt hy), cond_true, ixg hy, Option.bind_some]
    cases y.Name == n <;> rfl
  rw [idxf s (fun y => y.Name == n) hN st (by simp only [calqueref44_Index_b1, dn, cond_false])]
  rfl
theorem fst_mem {s : List State} {n : Str} : (fst s n < 0) ↔ n ∉ s.map State.Name := by
  unfold fst
  cases h : s.findIdx? (fun y => y.Name == n) with
  | none =>
    have := List.findIdx?_eq_none_iff.1 h
    refine ⟨fun _ hm => ?_, fun _ => by decide⟩
    obtain ⟨y, hy, e⟩ := List.mem_map.1 hm
    have := this y hy
    simp [e] at this
  | some k =>
    obtain ⟨hk, h1, _⟩ := List.findIdx?_eq_some_iff_getElem.1 h
    refine ⟨fun h => by simp only at h; omega, fun hm => absurd (List.mem_map.2 ⟨s[k], List.getElem_mem hk, by simpa using h1⟩) hm⟩
theorem fst_take {s : List State} {k : Nat} {x : State} (hx : s[k]? = some x) : fst s x.Name = (k : Int) ↔ x.Name ∉ (s.take k).map State.Name := by
  have hlt := getlt hx
  have hxe : s[k] = x := by rw [List.getElem?_eq_getElem hlt] at hx; exact Option.some.inj hx
  unfold fst
  constructor
  · intro h hm
    cases hf : s.findIdx? (fun y => y.Name == x.Name) with
    | none => rw [hf] at h; simp only at h; omega
    | some j =>
      rw [hf] at h
      simp only at h
      obtain rfl : j = k := by omega
      obtain ⟨_, _, h2⟩ := List.findIdx?_eq_some_iff_getElem.1 hf
      obtain ⟨y, hy, e⟩ := List.mem_map.1 hm
      obtain ⟨i, hi, rfl⟩ := List.mem_iff_getElem.1 hy
      simp only [List.length_take] at hi
      have := h2 i (by omega)
      rw [List.getElem_take] at e
      simp [e] at this
  · intro hm
    have : s.findIdx? (fun y => y.Name == x.Name) = some k := by
      refine List.findIdx?_eq_some_iff_getElem.2 ⟨hlt, by rw [hxe]; simp, fun j hj => ?_⟩
      intro he
      refine hm (List.mem_map.2 ⟨s[j], ?_, by simpa using he⟩)
      exact List.mem_iff_getElem.2 ⟨j, by simp; omega, by rw [List.getElem_take]⟩
    rw [this]
theorem ref_rules {N : Nat} {s : List State} (hs : Sz N s) {i : Nat} {x : State} (hx : s[i]? = some x) :
    (iter (fun st => calqueref44_Valid_b2 N s i st) N 0 = some (.inl ()) ∧ ∀ r ∈ x.Rules, RlP r ∧ (r.Next = [] ∨ r.Next ∈ s.map State.Name)) ∨ (iter (fun st => calqueref44_Valid_b2 N s i st) N 0 = some (.inr false) ∧ ¬∀ r ∈ x.Rules, RlP r ∧ (r.Next = [] ∨ r.Next ∈ s.map State.Name)) := by
  have hz := hs.2 x (List.mem_of_getElem? hx)
  refine iter_allP (fun r : Rule => RlP r ∧ (r.Next = [] ∨ r.Next ∈ s.map State.Name)) x.Rules hz.2.1 (fun k r hr => ?_) (by simp only [calqueref44_Valid_b2, ixg hx, Option.bind_some, dn, cond_false])
  simp only [calqueref44_Valid_b2, ixg hx, dk (getlt hr), cond_true, ixg hr, Option.bind_some, neN]
  rcases (ref_proper_eq (hz.2.2 r (List.mem_of_getElem? hr))).cases with ⟨h, p⟩ | ⟨h, p⟩
  · rw [h]
    simp only [Option.bind_some, Bool.not_true, cond_false]
    by_cases h0 : r.Next = []
    · rw [decide_eq_true h0]
      exact .inl ⟨⟨p, .inl h0⟩, rfl⟩
    · rw [decide_eq_false h0, Index_eq _ hs.1]
      simp only [Bool.not_false, cond_true, Option.bind_some]
      by_cases hm : fst s r.Next < 0
      · rw [decide_eq_true hm]
        exact .inr ⟨fun h => by rcases h.2 with h | h; exact h0 h; exact fst_mem.1 hm h, rfl⟩
      · rw [decide_eq_false hm]
        refine .inl ⟨⟨p, .inr ?_⟩, rfl⟩
        exact Classical.byContradiction fun h => hm (fst_mem.2 h)
  · rw [h]
    exact .inr ⟨fun q => p q.1, rfl⟩
theorem ref_loop {N : Nat} {s : List State} (hs : Sz N s) :
    (iter (fun st => calqueref44_Valid_b1 N s st) N 0 = some (.inl ()) ∧ A1 s ∧ A2 s) ∨ (iter (fun st => calqueref44_Valid_b1 N s st) N 0 = some (.inr false) ∧ ¬(A1 s ∧ A2 s)) := by
  obtain ⟨b, h1, h2⟩ := iter_indE (body := fun st => calqueref44_Valid_b1 N s st) (fun i st => st = (i : Int) ∧ A1 (s.take i) ∧ ∀ x ∈ s.take i, ∀ r ∈ x.Rules, RlP r ∧ (r.Next = [] ∨ r.Next ∈ s.map State.Name)) s.length
    (fun b => (b = .inl () ∧ A1 s ∧ A2 s) ∨ (b = .inr false ∧ ¬(A1 s ∧ A2 s))) (fun i st hi ⟨hst, hA, hB⟩ => by
    subst hst
    obtain ⟨x, hx⟩ := at_lt hi
    have hz := hs.2 x (List.mem_of_getElem? hx)
    have bad : ¬A1 (s.take (i + 1)) → ∃ b : Unit ⊕ Bool, (some (.inr (.inr false)) : Option (Int ⊕ (Unit ⊕ Bool))) = some (.inr b) ∧ ((b = .inl () ∧ A1 s ∧ A2 s) ∨ (b = .inr false ∧ ¬(A1 s ∧ A2 s))) := fun h => ⟨_, rfl, .inr ⟨rfl, fun g => h (g.1.sub _)⟩⟩
    rw [A1.take hx] at bad
    simp only [calqueref44_Valid_b1, dk hi, cond_true, ixg hx, Option.bind_some, ref_word_eq hz.1, Index_eq _ hs.1]
    cases hw : word x.Name with
    | false => exact .inr (bad (fun h => by have := h.2.1.1; rw [hw] at this; cases this))
    | true =>
      simp only [Bool.not_true, cond_false]
      by_cases hm : fst s x.Name = (i : Int)
      · have e : (fst s x.Name != (i : Int)) = false := by rw [hm]; simp
        rw [e]
        simp only [cond_false]
        by_cases h1 : x.Rules.length < 1
        · rw [decide_eq_true (by omega)]
          exact .inr (bad (fun h => by have := h.2.1.2.1; omega))
        · rw [decide_eq_false (by omega)]
          by_cases h2 : x.Rules.length > 40
          · rw [decide_eq_true (by omega)]
            exact .inr (bad (fun h => by have := h.2.1.2.2; omega))
          · rw [decide_eq_false (by omega)]
            simp only [cond_false]
            rcases ref_rules hs hx with ⟨h, p⟩ | ⟨h, p⟩
            · rw [h]
              refine .inl ⟨_, rfl, rfl, ?_, ?_⟩
              · rw [A1.take hx]; exact ⟨hA, ⟨hw, by omega, by omega⟩, (fst_take hx).1 hm⟩
              · rw [← take1 hx]
                intro y hy
                rcases List.mem_append.1 hy with hy | hy
                · exact hB y hy
                · rw [List.mem_singleton.1 hy]; exact p
            · rw [h]
              exact .inr ⟨_, rfl, .inr ⟨rfl, fun g => p (g.2 x (List.mem_of_getElem? hx))⟩⟩
      · have e : (fst s x.Name != (i : Int)) = true := by simpa using hm
        rw [e]
        exact .inr (bad (fun h => hm ((fst_take hx).2 h.2.2)))) (fun st ⟨hst, hA, hB⟩ => by
    subst hst
    rw [List.take_length] at hA hB
    exact ⟨_, by simp only [calqueref44_Valid_b1, dn, cond_false], .inl ⟨rfl, hA, hB⟩⟩) N 0 hs.1 ⟨by simp, by unfold A1; simp, by simp⟩
  rcases h2 with ⟨rfl, h⟩ | ⟨rfl, h⟩
  · exact .inl ⟨h1, h⟩
  · exact .inr ⟨h1, h⟩
theorem ref_Valid_eq {N : Nat} {s : List State} (hs : Sz N s) (hb : Sb s) (hN : 100 ≤ N) : Tells (calqueref44_Valid N s) (Vl s) := by
  unfold calqueref44_Valid
  rcases ref_loop hs with ⟨h, hA, hB⟩ | ⟨h, hA⟩
  · rw [h]
    simp only [Option.bind_some, Sum.elim_inl]
    by_cases h1 : 1 ≤ s.length
    · rw [decide_eq_true (by omega)]
      by_cases h2 : s.length ≤ 20
      · rw [decide_eq_true (by omega)]
        simp only [cond_true]
        have hv : Vs s := Vs_iff.2 ⟨by omega, hA, hB⟩
        rw [ref_text_eq hv hb hN]
        simp only [Option.bind_some]
        rw [show (8000 : Int) = ((8000 : Nat) : Int) from rfl, lenb]
        exact Tells.dec.iff ⟨fun h => ⟨hv, h⟩, fun h => h.2⟩
      · rw [decide_eq_false (by omega)]
        exact .no rfl (fun h => h2 h.1.len.2)
    · rw [decide_eq_false (by omega)]
      exact .no rfl (fun h => h1 h.1.len.1)
  · rw [h]
    exact .no rfl (fun h => hA (Vs_iff.1 h.1).2)
end Go.Proofs.Ytmmioinglmeoiaa
