/- Pure lemmas on loops, parts of strings, the first place of a part. -/
import Derived.Test.YtmmioinglmeoiaaLibW
import Derived.Lib.IndexMore
namespace Go.X

/-! ### loops -/
theorem iter_inr {σ β : Type} {body : σ → Option (σ ⊕ β)} {s : σ} {b : β} (h : body s = some (.inr b)) (N : Nat) : iter body (N + 1) s = some b := by rw [iter, h]
theorem iter_inl {σ β : Type} {body : σ → Option (σ ⊕ β)} {s s' : σ} (h : body s = some (.inl s')) (N : Nat) : iter body (N + 1) s = iter body N s' := by rw [iter, h]
/-- The first place from which p holds, or the length. -/
def scan (p : List UInt8 → Bool) : List UInt8 → Nat
  | [] => 0
  | b :: l => if p (b :: l) then 0 else scan p l + 1
theorem scan_le (p : List UInt8 → Bool) : ∀ l, scan p l ≤ l.length
  | [] => Nat.le_refl _
  | b :: l => by unfold scan; split; exact Nat.zero_le _; have := scan_le p l; simp only [List.length_cons]; omega
theorem iter_scan {body : Int → Option (Int ⊕ Int)} (p : List UInt8 → Bool) (s : List UInt8) (h : ∀ k : Nat, k ≤ s.length → body k = if k < s.length ∧ p (s.drop k) = false then some (.inl ((k : Int) + 1)) else some (.inr k)) :
    ∀ N, s.length < N → iter body N 0 = some (scan p s : Int) := by
  have key : ∀ j k N, k + j = s.length → j < N → iter body N (k : Int) = some ((k + scan p (s.drop k) : Nat) : Int) := by
    intro j
    induction j with
    | zero =>
      intro k N hk hN
      obtain ⟨N, rfl⟩ : ∃ M, N = M + 1 := ⟨N - 1, by omega⟩
      have e : s.drop k = [] := List.drop_eq_nil_of_le (by omega)
      rw [iter, h k (by omega), if_neg (by omega), e]
      rfl
    | succ j ih =>
      intro k N hk hN
      obtain ⟨N, rfl⟩ : ∃ M, N = M + 1 := ⟨N - 1, by omega⟩
      have hlt : k < s.length := by omega
      have e : s.drop k = s[k] :: s.drop (k + 1) := List.drop_eq_getElem_cons hlt
      rw [iter, h k (by omega)]
      by_cases hp : p (s.drop k) = false
      · rw [if_pos ⟨hlt, hp⟩]
        simp only
        have := ih (k + 1) N (by omega) (by omega)
        rw [show ((k : Int) + 1) = ((k + 1 : Nat) : Int) by omega, this, e]
        rw [e] at hp
        simp only [scan, hp]
        congr 1
        simp only [Bool.false_eq_true, if_false]
        omega
      · rw [if_neg (fun x => hp x.2)]
        have hp2 := eq_true_of_ne_false hp
        rw [e] at hp2
        show some (k : Int) = _
        rw [e, scan, if_pos hp2]
        rfl
  intro N hN
  have := key s.length 0 N (by omega) hN
  simpa using this

theorem iter_all {body : Int → Option (Int ⊕ (Unit ⊕ Bool))} (p : UInt8 → Bool) (v : Bool) (s : List UInt8) (h1 : ∀ (k : Nat) c, s[k]? = some c → body k = if p c then some (.inl ((k : Int) + 1)) else some (.inr (.inr v))) (h2 : body s.length = some (.inr (.inl ()))) :
    ∀ N, s.length < N → iter body N 0 = some (if s.all p then .inl () else .inr v) := by
  have key : ∀ j k N, k + j = s.length → j < N → iter body N (k : Int) = some (if (s.drop k).all p then .inl () else .inr v) := by
    intro j
    induction j with
    | zero =>
      intro k N hk hN
      obtain ⟨N, rfl⟩ : ∃ M, N = M + 1 := ⟨N - 1, by omega⟩
      have e : s.drop k = [] := List.drop_eq_nil_of_le (by omega)
      obtain rfl : k = s.length := by omega
      simp only [iter, h2, e]
      rfl
    | succ j ih =>
      intro k N hk hN
      obtain ⟨N, rfl⟩ : ∃ M, N = M + 1 := ⟨N - 1, by omega⟩
      have hlt : k < s.length := by omega
      have e : s.drop k = s[k] :: s.drop (k + 1) := List.drop_eq_getElem_cons hlt
      rw [iter, h1 k _ (List.getElem?_eq_getElem hlt), e, List.all_cons]
      cases hp : p s[k] with
      | false => simp
      | true =>
        simp only [if_true, Bool.true_and]
        rw [show ((k : Int) + 1) = ((k + 1 : Nat) : Int) by omega]
        exact ih (k + 1) N (by omega) (by omega)
  intro N hN
  have := key s.length 0 N (by omega) hN
  simpa using this

theorem slc_some {α : Type} {xs : List α} {a b : Nat} (h1 : a ≤ b) (h2 : b ≤ xs.length) : slc xs (a : Int) (b : Int) = some ((xs.drop a).take (b - a)) := by
  unfold slc
  rw [if_pos (by omega)]
  congr 2
  omega
theorem slc_take {α : Type} {xs : List α} {b : Nat} (h : b ≤ xs.length) : slc xs 0 (b : Int) = some (xs.take b) := by
  have := slc_some (xs := xs) (Nat.zero_le b) h
  simpa using this
theorem slc_drop {α : Type} {xs : List α} {a : Nat} (h : a ≤ xs.length) : slc xs (a : Int) (xs.length : Int) = some (xs.drop a) := by
  rw [slc_some h (Nat.le_refl _), List.take_of_length_le (by simp)]
theorem idx_some {α : Type} {xs : List α} {k : Nat} {c : α} (h : xs[k]? = some c) : idx xs (k : Int) = some c := by
  unfold idx; rw [if_pos (by omega)]; simpa using h
theorem cat_some {a b : List UInt8} (h : a.length + b.length ≤ 1000000) : cat a b = some (a ++ b) := by
  unfold cat; rw [if_pos (by unfold LIMS; omega)]
theorem wrap_id {z : Int} (h1 : -1000000 ≤ z) (h2 : z ≤ 1000000) : IntKind.wrap .i64 z = z := wrap_of (inR_i64.2 ⟨by omega, by omega⟩)
theorem beq_nil (l : List UInt8) : (l == []) = decide (l = []) := by cases l <;> rfl

def fnd (sub : List UInt8) (s : List UInt8) : Nat := scan (fun l => sub.isPrefixOf l) s
theorem fnd_cons (sub : List UInt8) (b : UInt8) (l : List UInt8) : fnd sub (b :: l) = if sub.isPrefixOf (b :: l) then 0 else fnd sub l + 1 := rfl
theorem index_fnd {sub : List UInt8} (h : sub ≠ []) : ∀ s, Lib.index s sub = if fnd sub s < s.length then (fnd sub s : Int) else -1
  | [] => by
    cases sub with
    | nil => exact absurd rfl h
    | cons a t => rfl
  | b :: l => by
    have ih := index_fnd h l
    rw [fnd_cons]
    unfold Lib.index
    cases hp : sub.isPrefixOf (b :: l) with
    | true => simp
    | false =>
      rw [ih]
      simp only [Bool.false_eq_true, if_false, List.length_cons]
      by_cases h1 : fnd sub l < l.length
      · rw [if_pos h1, if_pos (show fnd sub l + 1 < l.length + 1 by omega), if_neg (by rw [beq_iff_eq]; omega)]
        rfl
      · rw [if_neg h1, if_neg (show ¬ fnd sub l + 1 < l.length + 1 by omega)]
        rfl
theorem cut_fnd {sub s : List UInt8} (h : sub ≠ []) : Lib.cut s sub = if fnd sub s < s.length then (s.take (fnd sub s), s.drop (fnd sub s + sub.length), true) else (s, [], false) := by
  unfold Lib.cut
  rw [index_fnd h]
  by_cases h1 : fnd sub s < s.length
  · simp only [if_pos h1]
    rw [if_pos (by omega)]
    simp
  · simp only [if_neg h1]
    rw [if_neg (by decide)]

theorem cat_le {a b : List UInt8} (h : a.length + b.length ≤ LIMS) : cat a b = some (a ++ b) := by unfold cat; rw [if_pos h]
theorem isPrefix_head {g : List UInt8} (hg : g ≠ []) {c : UInt8} {l : List UInt8} (h : c ∉ g) : g.isPrefixOf (c :: l) = false := by
  cases g with
  | nil => exact absurd rfl hg
  | cons a t =>
    have : a ≠ c := fun e => h (by simp [e])
    simp [List.isPrefixOf, this]

theorem fnd_skip1 {c0 : UInt8} {sub : List UInt8} : ∀ (a b : List UInt8), (∀ c ∈ a, c ≠ c0) → fnd (c0 :: sub) (a ++ b) = a.length + fnd (c0 :: sub) b
  | [], b, _ => by simp
  | c :: a, b, h => by
    have hc : c ≠ c0 := h c (by simp)
    have hp : (c0 :: sub).isPrefixOf (c :: (a ++ b)) = false := by simp [List.isPrefixOf, Ne.symm hc]
    rw [List.cons_append, fnd_cons, hp, fnd_skip1 a b fun c hc => h c (by simp [hc])]
    simp only [Bool.false_eq_true, if_false, List.length_cons]
    omega
theorem fnd_here {sub : List UInt8} (b : List UInt8) : fnd sub (sub ++ b) = 0 := by
  cases h : sub ++ b with
  | nil => rfl
  | cons c l =>
    have hp : sub.isPrefixOf (c :: l) = true := by rw [← h]; exact List.isPrefixOf_iff_prefix.2 ⟨b, rfl⟩
    rw [fnd_cons, if_pos hp]
theorem fnd_at {sub : List UInt8} : ∀ s : List UInt8, fnd sub s < s.length → ∃ v, s = s.take (fnd sub s) ++ sub ++ v ∧ v = s.drop (fnd sub s + sub.length)
  | [], h => absurd h (Nat.not_lt_zero _)
  | b :: l, h => by
    rw [fnd_cons] at h ⊢
    split at h
    · rename_i hp
      rw [if_pos hp]
      obtain ⟨v, hv⟩ := List.isPrefixOf_iff_prefix.1 hp
      refine ⟨v, by simp [hv], ?_⟩
      rw [← hv, Nat.zero_add, List.drop_left]
    · rename_i hp
      rw [if_neg hp]
      obtain ⟨v, h1, h2⟩ := fnd_at (sub := sub) l (by simp only [List.length_cons] at h; omega)
      refine ⟨v, ?_, ?_⟩
      · rw [List.take_succ_cons, List.cons_append, List.cons_append, ← h1]
      · rw [h2, show fnd sub l + 1 + sub.length = (fnd sub l + sub.length) + 1 by omega, List.drop_succ_cons]
theorem fnd_le (sub s : List UInt8) : fnd sub s ≤ s.length := scan_le _ s
theorem countFrom_fnd {sub : List UInt8} (h : sub ≠ []) (f : Nat) (s : List UInt8) : Lib.countFrom sub (f + 1) s = if fnd sub s < s.length then 1 + Lib.countFrom sub f (s.drop (fnd sub s + sub.length)) else 0 := by
  rw [Lib.countFrom, index_fnd h]
  by_cases h1 : fnd sub s < s.length
  · rw [if_pos h1, if_pos h1, if_neg (by rw [beq_iff_eq]; omega)]
    simp only [Int.toNat_natCast]
  · rw [if_neg h1, if_neg h1]
    rfl
/-- Count is 1: one place, and none behind it. -/
theorem count_one {sub : List UInt8} (h : sub ≠ []) (s : List UInt8) : Lib.count s sub = 1 ↔ fnd sub s < s.length ∧ ¬ fnd sub (s.drop (fnd sub s + sub.length)) < (s.drop (fnd sub s + sub.length)).length := by
  have hl : 1 ≤ sub.length := by cases sub with | nil => exact absurd rfl h | cons a t => simp
  unfold Lib.count
  rw [countFrom_fnd h]
  by_cases h1 : fnd sub s < s.length
  · rw [if_pos h1]
    obtain ⟨g, hg⟩ : ∃ g, s.length = g + 1 := ⟨s.length - 1, by omega⟩
    rw [hg, countFrom_fnd h]
    by_cases h2 : fnd sub (s.drop (fnd sub s + sub.length)) < (s.drop (fnd sub s + sub.length)).length
    · rw [if_pos h2]
      refine ⟨fun e => by omega, fun e => absurd h2 e.2⟩
    · rw [if_neg h2]
      exact ⟨fun _ => ⟨by omega, h2⟩, fun _ => rfl⟩
  · rw [if_neg h1]
    exact ⟨fun e => by omega, fun e => absurd e.1 h1⟩
theorem replace_one {sub new : List UInt8} (h : sub ≠ []) (hn : sub ≠ new) {s : List UInt8} (h1 : fnd sub s < s.length) : Lib.replace s sub new 1 = s.take (fnd sub s) ++ new ++ s.drop (fnd sub s + sub.length) := by
  unfold Lib.replace
  rw [if_neg (by rw [beq_iff_eq]; exact hn)]
  have hc : 1 ≤ Lib.count s sub := by
    unfold Lib.count
    rw [countFrom_fnd h, if_pos h1]; omega
  have hnum : Lib.replaceNum s sub 1 = 1 := by
    unfold Lib.replaceNum
    rw [if_neg (by omega)]
    rfl
  rw [hnum, Lib.replaceK_hit sub new 0 s (fnd sub s) (by rw [index_fnd h, if_pos h1])]
  rfl
end Go.X
