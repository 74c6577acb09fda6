/- One lemma for loops that run along a list, and what such runs come to. -/
import Derived.Test.YtmmioinglmeoiaaLibP
namespace Go.X

/-- Along a list, with a state; a step may end the run. -/
def run {σ α β : Type} (f : σ → α → σ ⊕ β) (fin : σ → β) : σ → List α → β
  | s, [] => fin s
  | s, x :: xs => match f s x with
    | .inl s' => run f fin s' xs
    | .inr b => b

theorem iter_list {σ τ α β : Type} {body : τ → Option (τ ⊕ β)} (mkS : σ → Int → τ) (xs : List α) (f : σ → α → σ ⊕ β) (fin : σ → β) (I : Nat → σ → Prop)
    (h1 : ∀ s (k : Nat) x, xs[k]? = some x → I k s → body (mkS s k) = some (match f s x with | .inl s' => .inl (mkS s' ((k : Int) + 1)) | .inr b => .inr b) ∧ ∀ s', f s x = .inl s' → I (k + 1) s')
    (h2 : ∀ s, I xs.length s → body (mkS s xs.length) = some (.inr (fin s))) :
    ∀ N s, xs.length < N → I 0 s → iter body N (mkS s 0) = some (run f fin s xs) := by
  have key : ∀ j k N s, k + j = xs.length → j < N → I k s → iter body N (mkS s (k : Int)) = some (run f fin s (xs.drop k)) := by
    intro j
    induction j with
    | zero =>
      intro k N s hk hN hI
      obtain ⟨N, rfl⟩ : ∃ M, N = M + 1 := ⟨N - 1, by omega⟩
      have e : xs.drop k = [] := List.drop_eq_nil_of_le (by omega)
      obtain rfl : k = xs.length := by omega
      rw [iter, h2 s hI, e]; rfl
    | succ j ih =>
      intro k N s hk hN hI
      obtain ⟨N, rfl⟩ : ∃ M, N = M + 1 := ⟨N - 1, by omega⟩
      have hlt : k < xs.length := by omega
      have e : xs.drop k = xs[k] :: xs.drop (k + 1) := List.drop_eq_getElem_cons hlt
      obtain ⟨h3, h4⟩ := h1 s k _ (List.getElem?_eq_getElem hlt) hI
      rw [iter, h3, e]
      simp only [run]
      cases hf : f s xs[k] with
      | inl s' =>
        simp only
        rw [show ((k : Int) + 1) = ((k + 1 : Nat) : Int) by omega]
        exact ih (k + 1) N s' (by omega) (by omega) (h4 s' hf)
      | inr b => rfl
  intro N s hN hI
  have := key xs.length 0 N s (by omega) hN hI
  simpa using this

/-- The same without an invariant. -/
theorem iter_list' {σ τ α β : Type} {body : τ → Option (τ ⊕ β)} (mkS : σ → Int → τ) (xs : List α) (f : σ → α → σ ⊕ β) (fin : σ → β)
    (h1 : ∀ s (k : Nat) x, xs[k]? = some x → body (mkS s k) = some (match f s x with | .inl s' => .inl (mkS s' ((k : Int) + 1)) | .inr b => .inr b))
    (h2 : ∀ s, body (mkS s xs.length) = some (.inr (fin s))) (N : Nat) (s : σ) (hN : xs.length < N) : iter body N (mkS s 0) = some (run f fin s xs) :=
  iter_list mkS xs f fin (fun _ _ => True) (fun s k x hx _ => ⟨h1 s k x hx, fun _ _ => trivial⟩) (fun s _ => h2 s) N s hN trivial

/-- A search: the first place where p holds. -/
theorem iter_find {α : Type} {body : Int → Option (Int ⊕ (Unit ⊕ Int))} (xs : List α) (p : α → Bool)
    (h1 : ∀ (k : Nat) x, xs[k]? = some x → body k = some (if p x then .inr (.inr k) else .inl ((k : Int) + 1))) (h2 : body xs.length = some (.inr (.inl ()))) (N : Nat) (hN : xs.length < N) :
    iter body N 0 = some (match xs.findIdx? p with | some k => .inr (k : Int) | none => .inl ()) := by
  have key : ∀ j k N, k + j = xs.length → j < N → iter body N (k : Int) = some (match (xs.drop k).findIdx? p with | some i => .inr ((k + i : Nat) : Int) | none => .inl ()) := by
    intro j
    induction j with
    | zero =>
      intro k N hk hN
      obtain ⟨N, rfl⟩ : ∃ M, N = M + 1 := ⟨N - 1, by omega⟩
      have e : xs.drop k = [] := List.drop_eq_nil_of_le (by omega)
      obtain rfl : k = xs.length := by omega
      rw [iter, h2, e]; rfl
    | succ j ih =>
      intro k N hk hN
      obtain ⟨N, rfl⟩ : ∃ M, N = M + 1 := ⟨N - 1, by omega⟩
      have hlt : k < xs.length := by omega
      have e : xs.drop k = xs[k] :: xs.drop (k + 1) := List.drop_eq_getElem_cons hlt
      rw [iter, h1 k _ (List.getElem?_eq_getElem hlt), e, List.findIdx?_cons]
      cases hp : p xs[k] with
      | true => simp
      | false =>
        simp only [Bool.false_eq_true, if_false]
        rw [show ((k : Int) + 1) = ((k + 1 : Nat) : Int) by omega, ih (k + 1) N (by omega) (by omega)]
        cases (xs.drop (k + 1)).findIdx? p with
        | none => rfl
        | some i => simp only [Option.map_some]; congr 3; omega
  have := key xs.length 0 N (by omega) hN
  simpa using this
/-- IndexFunc and what ContainsFunc makes of it. -/
theorem find_any {α : Type} (xs : List α) (p : α → Bool) : ((some (match xs.findIdx? p with | some k => Sum.inr (k : Int) | none => Sum.inl ()) : Option (Unit ⊕ Int)).bind fun o => Sum.elim (fun _ => some (-1)) (fun o => some o) o) = some (match xs.findIdx? p with | some k => (k : Int) | none => -1) := by
  cases xs.findIdx? p <;> rfl
theorem find_ge {α : Type} (xs : List α) (p : α → Bool) : decide ((match xs.findIdx? p with | some k => (k : Int) | none => -1) ≥ 0) = xs.any p := by
  cases h : xs.findIdx? p with
  | none =>
    have : xs.any p = false := by
      rw [List.any_eq_false]; intro x hx
      have := List.findIdx?_eq_none_iff.1 h x hx
      simp [this]
    rw [this]; rfl
  | some k =>
    have : xs.any p = true := by
      obtain ⟨x, hx, hp⟩ := List.findIdx?_eq_some_iff_getElem.1 h
      exact List.any_eq_true.2 ⟨_, List.getElem_mem x, by first | exact hx | exact hp.1 | exact hp⟩
    rw [this]
    simp

/-- 'Is it so of all?' -/
theorem run_all {α : Type} (p : α → Bool) : ∀ xs : List α, run (σ := Unit) (β := Unit ⊕ Bool) (fun _ x => if p x then .inl () else .inr (.inr false)) (fun _ => .inl ()) () xs = if xs.all p then .inl () else .inr false
  | [] => rfl
  | x :: xs => by
    unfold run
    cases h : p x with
    | true => simp only [if_true, run_all p xs, List.all_cons, h, Bool.true_and]
    | false => simp [h]
theorem iter_allL {α : Type} {body : Int → Option (Int ⊕ (Unit ⊕ Bool))} (p : α → Bool) (xs : List α) (h1 : ∀ (k : Nat) x, xs[k]? = some x → body k = some (if p x then .inl ((k : Int) + 1) else .inr (.inr false))) (h2 : body xs.length = some (.inr (.inl ()))) (N : Nat) (hN : xs.length < N) :
    iter body N 0 = some (if xs.all p then .inl () else .inr false) := by
  rw [← run_all p xs]
  refine iter_list' (σ := Unit) (fun _ k => k) xs _ _ (fun _ k x hx => ?_) (fun _ => h2) N () hN
  rw [h1 k x hx]
  cases p x <;> rfl
/-- 'Is it so of one?' -/
theorem iter_anyL {α : Type} {body : Int → Option (Int ⊕ (Unit ⊕ Bool))} (p : α → Bool) (xs : List α) (h1 : ∀ (k : Nat) x, xs[k]? = some x → body k = some (if p x then .inr (.inr true) else .inl ((k : Int) + 1))) (h2 : body xs.length = some (.inr (.inl ()))) (N : Nat) (hN : xs.length < N) :
    iter body N 0 = some (if xs.any p then .inr true else .inl ()) := by
  have e : ∀ xs : List α, run (σ := Unit) (β := Unit ⊕ Bool) (fun _ x => if p x then .inr (.inr true) else .inl ()) (fun _ => .inl ()) () xs = if xs.any p then .inr true else .inl () := by
    intro xs
    induction xs with
    | nil => rfl
    | cons x xs ih =>
      unfold run
      cases h : p x with
      | true => simp [h]
      | false => simp only [Bool.false_eq_true, if_false, ih, List.any_cons, h, Bool.false_or]
  rw [← e xs]
  refine iter_list' (σ := Unit) (fun _ k => k) xs _ _ (fun _ k x hx => ?_) (fun _ => h2) N () hN
  rw [h1 k x hx]
  cases p x <;> rfl
theorem dlt {k n : Nat} (h : k < n) : decide ((k : Int) < (n : Int)) = true := decide_eq_true (by omega)
theorem dnlt {n : Nat} : decide ((n : Int) < (n : Int)) = false := decide_eq_false (by omega)
theorem getlt {α : Type} {xs : List α} {k : Nat} {x : α} (h : xs[k]? = some x) : k < xs.length := (List.getElem?_eq_some_iff.1 h).1
theorem dltx {α : Type} {xs : List α} {k : Nat} {x : α} (h : xs[k]? = some x) : decide ((k : Int) < (xs.length : Int)) = true := dlt (getlt h)
end Go.X
