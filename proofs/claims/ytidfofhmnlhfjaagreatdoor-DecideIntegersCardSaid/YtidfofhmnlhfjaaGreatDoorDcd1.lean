/- The order of the numbers as words, and the first of some words. -/
import Derived.Test.YtidfofhmnlhfjaaGreatDoorCndD
set_option linter.unusedVariables false
namespace Go.Proofs.YtidfofhmnlhfjaaGreatDoor
open Go.X

abbrev Str := List UInt8
def ky (c : UInt8) : Nat := if c = 46 then 256 else c.toNat
theorem ky_inj {a b : UInt8} (h : ky a = ky b) : a = b := by
  unfold ky at h
  have ha := a.toNat_lt
  have hb := b.toNat_lt
  by_cases h1 : a = 46
  · by_cases h2 : b = 46
    · rw [h1, h2]
    · rw [if_pos h1, if_neg h2] at h; omega
  · by_cases h2 : b = 46
    · rw [if_neg h1, if_pos h2] at h; omega
    · rw [if_neg h1, if_neg h2] at h; exact UInt8.toNat_inj.1 h
def lx : Str → Str → Bool
  | a :: s, b :: t => if a = b then lx s t else decide (ky a < ky b)
  | _, _ => false
def bef (s t : Str) : Bool := if s.length = t.length then lx s t else decide (s.length < t.length)
theorem lx_irr : ∀ s : Str, lx s s = false
  | [] => rfl
  | a :: s => by rw [lx, if_pos rfl]; exact lx_irr s
theorem lx_tr : ∀ {s t u : Str}, lx s t = true → lx t u = true → lx s u = true
  | [], _, _, h, _ => by rw [lx] at h; cases h; intros; contradiction
  | _ :: _, [], _, h, _ => by rw [lx] at h; cases h; intros; contradiction
  | _ :: _, _ :: _, [], _, h => by rw [lx] at h; cases h; intros; contradiction
  | a :: s, b :: t, c :: u, h1, h2 => by
    rw [lx] at h1 h2 ⊢
    by_cases e1 : a = b
    · subst e1
      rw [if_pos rfl] at h1
      by_cases e2 : a = c
      · subst e2; rw [if_pos rfl] at h2 ⊢; exact lx_tr h1 h2
      · rw [if_neg e2] at h2 ⊢; exact h2
    · rw [if_neg e1, decide_eq_true_eq] at h1
      by_cases e2 : b = c
      · subst e2; rw [if_neg e1, decide_eq_true_eq]; exact h1
      · rw [if_neg e2, decide_eq_true_eq] at h2
        have e3 : a ≠ c := fun e => by subst e; omega
        rw [if_neg e3, decide_eq_true_eq]; omega
theorem lx_tri : ∀ {s t : Str}, s.length = t.length → lx s t = false → lx t s = false → s = t
  | [], [], _, _, _ => rfl
  | [], _ :: _, h, _, _ => by simp at h
  | _ :: _, [], h, _, _ => by simp at h
  | a :: s, b :: t, hl, h1, h2 => by
    rw [lx] at h1 h2
    by_cases e : a = b
    · subst e
      rw [if_pos rfl] at h1 h2
      rw [lx_tri (by simpa using hl) h1 h2]
    · rw [if_neg e, decide_eq_false_iff_not] at h1
      rw [if_neg (Ne.symm e), decide_eq_false_iff_not] at h2
      exact absurd (ky_inj (by omega)) e
theorem lx_app : ∀ {a b : Str} (s t : Str), a.length = b.length → lx (a ++ s) (b ++ t) = if a = b then lx s t else lx a b
  | [], [], s, t, _ => rfl
  | [], _ :: _, _, _, h => by simp at h
  | _ :: _, [], _, _, h => by simp at h
  | x :: a, y :: b, s, t, h => by
    rw [List.cons_append, List.cons_append, lx, lx, lx_app s t (by simpa using h)]
    by_cases e : x = y
    · subst e; simp
    · simp [e]
theorem bef_irr (s : Str) : bef s s = false := by unfold bef; rw [if_pos rfl]; exact lx_irr s
theorem bef_tr {s t u : Str} (h1 : bef s t = true) (h2 : bef t u = true) : bef s u = true := by
  unfold bef at *
  by_cases e1 : s.length = t.length
  · rw [if_pos e1] at h1
    by_cases e2 : t.length = u.length
    · rw [if_pos e2] at h2; rw [if_pos (e1.trans e2)]; exact lx_tr h1 h2
    · rw [if_neg e2, decide_eq_true_eq] at h2; rw [if_neg (by omega), decide_eq_true_eq]; omega
  · rw [if_neg e1, decide_eq_true_eq] at h1
    by_cases e2 : t.length = u.length
    · rw [if_neg (by omega), decide_eq_true_eq]; omega
    · rw [if_neg e2, decide_eq_true_eq] at h2; rw [if_neg (by omega), decide_eq_true_eq]; omega
theorem bef_tri {s t : Str} (h1 : bef s t = false) (h2 : bef t s = false) : s = t := by
  unfold bef at *
  by_cases e : s.length = t.length
  · rw [if_pos e] at h1; rw [if_pos e.symm] at h2; exact lx_tri e h1 h2
  · rw [if_neg e, decide_eq_false_iff_not] at h1
    rw [if_neg (Ne.symm e), decide_eq_false_iff_not] at h2
    omega
def lex (s t : Str) : Prop := s = t ∨ lx s t = true
def bex (s t : Str) : Prop := s = t ∨ bef s t = true
theorem lex_rfl (s : Str) : lex s s := .inl rfl
theorem lex_tr {s t u : Str} (h1 : lex s t) (h2 : lex t u) : lex s u := by
  rcases h1 with rfl | h1
  · exact h2
  · rcases h2 with rfl | h2
    · exact .inr h1
    · exact .inr (lx_tr h1 h2)
theorem bex_tr {s t u : Str} (h1 : bex s t) (h2 : bex t u) : bex s u := by
  rcases h1 with rfl | h1
  · exact h2
  · rcases h2 with rfl | h2
    · exact .inr h1
    · exact .inr (bef_tr h1 h2)
theorem lex_app {a b s t : Str} (h1 : lex a b) (hl : a.length = b.length) (h2 : lex s t) : lex (a ++ s) (b ++ t) := by
  by_cases e : a = b
  · subst e
    rcases h2 with rfl | h2
    · exact .inl rfl
    · right; rw [lx_app _ _ rfl, if_pos rfl]; exact h2
  · right; rw [lx_app _ _ hl, if_neg e]
    rcases h1 with h1 | h1
    · exact absurd h1 e
    · exact h1
theorem lex_bex {s t : Str} (hl : s.length = t.length) (h : lex s t) : bex s t := by
  rcases h with h | h
  · exact .inl h
  · right; unfold bef; rw [if_pos hl]; exact h

/-! ### numbers of two parts -/
def nb (w f : Str) : Str := w ++ if f = [] then [] else 46 :: f
theorem nb_len (w f : Str) : (nb w f).length = w.length + if f = [] then 0 else f.length + 1 := by unfold nb; split <;> simp_all
theorem nb_le {w w' f f' : Str} (hf : f'.length = f.length) (hw : w'.length < w.length ∨ (w'.length = w.length ∧ lex w' w)) (hl : lex f' f) : bex (nb w' f') (nb w f) := by
  have he : (f' = []) ↔ f = [] := by
    constructor
    · intro e; subst e; exact List.eq_nil_of_length_eq_zero hf.symm
    · intro e; subst e; exact List.eq_nil_of_length_eq_zero hf
  rcases hw with hw | ⟨hw, hx⟩
  · right
    unfold bef
    have h1 := nb_len w' f'
    have h2 := nb_len w f
    have h3 : (if f' = [] then 0 else f'.length + 1) = if f = [] then 0 else f.length + 1 := by
      by_cases e : f = []
      · rw [if_pos e, if_pos (he.2 e)]
      · rw [if_neg e, if_neg (fun e' => e (he.1 e')), hf]
    rw [if_neg (by omega), decide_eq_true_eq]
    omega
  · refine lex_bex ?_ ?_
    · have h1 := nb_len w' f'
      have h2 := nb_len w f
      have h3 : (if f' = [] then 0 else f'.length + 1) = if f = [] then 0 else f.length + 1 := by
        by_cases e : f = []
        · rw [if_pos e, if_pos (he.2 e)]
        · rw [if_neg e, if_neg (fun e' => e (he.1 e')), hf]
      omega
    · unfold nb
      refine lex_app hx hw ?_
      by_cases e : f = []
      · rw [if_pos e, if_pos (he.2 e)]; exact lex_rfl _
      · rw [if_neg e, if_neg (fun e' => e (he.1 e'))]
        exact lex_app (a := [46]) (b := [46]) (lex_rfl _) rfl hl
/-- Equal lengths: less as numbers is less as words. -/
theorem vl_acc : ∀ (s : Str) (k : Nat), vl k s = k * 10 ^ s.length + vl 0 s
  | [], k => by simp [vl]
  | c :: s, k => by
    have h1 := vl_acc s (10 * k + (c.toNat - 48))
    have h2 := vl_acc s (10 * 0 + (c.toNat - 48))
    have e : ∀ k, vl k (c :: s) = vl (10 * k + (c.toNat - 48)) s := fun k => rfl
    rw [e, e, h1, h2, List.length_cons, Nat.pow_succ, Nat.add_mul, Nat.add_mul, Nat.mul_comm 10 k, Nat.mul_assoc, Nat.mul_comm 10 (10 ^ s.length)]
    omega
theorem vl_bound {s : Str} (h : s.all dgt = true) : vl 0 s < 10 ^ s.length := by
  have := vl_lt s 0 0 h (by simp)
  simpa using this
theorem vl_lex : ∀ {a b : Str}, a.all dgt = true → b.all dgt = true → a.length = b.length → vl 0 a ≤ vl 0 b → lex a b
  | [], [], _, _, _, _ => lex_rfl _
  | [], _ :: _, _, _, h, _ => by simp at h
  | _ :: _, [], _, _, h, _ => by simp at h
  | x :: a, y :: b, ha, hb, hl, h => by
    rw [List.all_cons, Bool.and_eq_true] at ha hb
    have hl' : a.length = b.length := by simpa using hl
    have e : ∀ (c : UInt8) (s : Str), vl 0 (c :: s) = vl (10 * 0 + (c.toNat - 48)) s := fun c s => rfl
    rw [e, e, vl_acc a, vl_acc b, hl'] at h
    have h1 := vl_bound ha.2
    have h2 := vl_bound hb.2
    rw [hl'] at h1
    have hx := dgt_iff.1 ha.1
    have hy := dgt_iff.1 hb.1
    by_cases exy : x = y
    · subst exy
      have : vl 0 a ≤ vl 0 b := by omega
      exact lex_app (a := [x]) (b := [x]) (lex_rfl _) rfl (vl_lex ha.2 hb.2 hl' this)
    · right
      rw [lx, if_neg exy, decide_eq_true_eq]
      have k1 : x ≠ 46 := fun e => by subst e; simp at hx
      have k2 : y ≠ 46 := fun e => by subst e; simp at hy
      unfold ky
      rw [if_neg k1, if_neg k2]
      have hne : x.toNat ≠ y.toNat := fun e => exy (UInt8.toNat_inj.1 e)
      by_cases hlt : x.toNat < y.toNat
      · exact hlt
      · exfalso
        have hxy : (y.toNat - 48) + 1 ≤ x.toNat - 48 := by omega
        have := Nat.mul_le_mul_right (10 ^ b.length) hxy
        rw [Nat.add_mul] at this
        simp only [Nat.mul_zero, Nat.zero_add] at h
        omega

/-! ### the first word with a property -/
def fst1 (P : Str → Bool) (b : Option Str) (s : Str) : Option Str := if P s && (match b with | none => true | some x => bef s x) then some s else b
def fstW (P : Str → Bool) (l : List Str) : Option Str := l.foldl (fst1 P) none
def IsF (P : Str → Bool) (l : List Str) (r : Option Str) : Prop :=
  (r = none → ∀ s ∈ l, P s = false) ∧ ∀ s, r = some s → s ∈ l ∧ P s = true ∧ ∀ c ∈ l, P c = true → bef c s = false
theorem fold_IsF (P : Str → Bool) : ∀ (l a : List Str) (b : Option Str), IsF P a b → IsF P (a ++ l) (l.foldl (fst1 P) b)
  | [], a, b, h => by simpa using h
  | s :: l, a, b, h => by
    rw [List.foldl_cons, show a ++ s :: l = (a ++ [s]) ++ l by simp]
    refine fold_IsF P l (a ++ [s]) _ ?_
    unfold fst1
    cases hp : P s with
    | false =>
      simp only [Bool.false_and, Bool.false_eq_true, if_false]
      refine ⟨fun e x hx => ?_, fun x e => ?_⟩
      · rcases List.mem_append.1 hx with hx | hx
        · exact h.1 e x hx
        · simp at hx; subst hx; exact hp
      · obtain ⟨h1, h2, h3⟩ := h.2 x e
        refine ⟨List.mem_append.2 (.inl h1), h2, fun c hc hpc => ?_⟩
        rcases List.mem_append.1 hc with hc | hc
        · exact h3 c hc hpc
        · simp at hc; subst hc; rw [hp] at hpc; cases hpc
    | true =>
      simp only [Bool.true_and]
      cases b with
      | none =>
        simp only [if_true]
        refine ⟨fun e => (by cases e), fun x e => ?_⟩
        cases e
        refine ⟨by simp, hp, fun c hc hpc => ?_⟩
        rcases List.mem_append.1 hc with hc | hc
        · rw [h.1 rfl c hc] at hpc; cases hpc
        · simp at hc; subst hc; exact bef_irr _
      | some y =>
        obtain ⟨h1, h2, h3⟩ := h.2 y rfl
        show IsF P (a ++ [s]) (if bef s y then some s else some y)
        cases hb : bef s y with
        | true =>
          simp only [if_true]
          refine ⟨fun e => (by cases e), fun x e => ?_⟩
          cases e
          refine ⟨by simp, hp, fun c hc hpc => ?_⟩
          rcases List.mem_append.1 hc with hc | hc
          · cases hcs : bef c s with
            | false => rfl
            | true =>
              have := bef_tr hcs hb
              rw [h3 c hc hpc] at this
              cases this
          · simp at hc; subst hc; exact bef_irr _
        | false =>
          simp only [Bool.false_eq_true, if_false]
          refine ⟨fun e => (by cases e), fun x e => ?_⟩
          cases e
          refine ⟨List.mem_append.2 (.inl h1), h2, fun c hc hpc => ?_⟩
          rcases List.mem_append.1 hc with hc | hc
          · exact h3 c hc hpc
          · simp at hc; subst hc; exact hb
theorem fstW_IsF (P : Str → Bool) (l : List Str) : IsF P l (fstW P l) := by
  have := fold_IsF P l [] none ⟨fun _ s hs => (by cases hs), fun s e => (by cases e)⟩
  exact this
/-- Words that stand for all of some kind, each for those that come not ahead of it. -/
structure Cover (D : Str → Prop) (E : Str → Str → Prop) (C : List Str) : Prop where
  d : ∀ c ∈ C, D c
  c : ∀ x, D x → ∃ c ∈ C, E c x ∧ bex c x
structure First (D : Str → Prop) (P : Str → Bool) (r : Option Str) : Prop where
  n : r = none → ∀ x, D x → P x = false
  s : ∀ s, r = some s → D s ∧ P s = true ∧ ∀ x, D x → P x = true → bef x s = false
theorem Cover.first {D : Str → Prop} {E : Str → Str → Prop} {C : List Str} (h : Cover D E C) {P : Str → Bool} (hE : ∀ s t, D s → D t → E s t → P s = P t) : First D P (fstW P C) := by
  have hf := fstW_IsF P C
  refine ⟨fun e x hx => ?_, fun s e => ?_⟩
  · obtain ⟨c, h1, h2, h3⟩ := h.c x hx
    rw [← hE c x (h.d c h1) hx h2]
    exact hf.1 e c h1
  · obtain ⟨h1, h2, h3⟩ := hf.2 s e
    refine ⟨h.d s h1, h2, fun x hx hp => ?_⟩
    obtain ⟨c, k1, k2, k3⟩ := h.c x hx
    have hpc : P c = true := by rw [hE c x (h.d c k1) hx k2]; exact hp
    have h4 := h3 c k1 hpc
    rcases k3 with rfl | k3
    · exact h4
    · cases hb : bef x s with
      | false => rfl
      | true =>
        have := bef_tr k3 hb
        rw [h4] at this
        cases this
theorem First.uniq {D : Str → Prop} {P : Str → Bool} {a b : Option Str} (ha : First D P a) (hb : First D P b) : a = b := by
  cases a with
  | none =>
    cases b with
    | none => rfl
    | some t =>
      obtain ⟨h1, h2, _⟩ := hb.s t rfl
      rw [ha.n rfl t h1] at h2
      cases h2
  | some s =>
    obtain ⟨h1, h2, h3⟩ := ha.s s rfl
    cases b with
    | none =>
      rw [hb.n rfl s h1] at h2
      cases h2
    | some t =>
      obtain ⟨k1, k2, k3⟩ := hb.s t rfl
      rw [bef_tri (k3 s h1 h2) (h3 t k1 k2)]
end Go.Proofs.YtidfofhmnlhfjaaGreatDoor
