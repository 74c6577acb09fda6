/- Patterns with two places: both functions know the same strings. -/
import Derived.Test.YtnmiodonophfbaaDoorExt16a
import Derived.Test.YtnmiodonophfbaaDoorLibP
namespace Go.Proofs.YtnmiodonophfbaaDoor
open Go.X

def p0 : List UInt8 := [123, 48, 125]
def p1 : List UInt8 := [123, 49, 125]
def nb (l : List UInt8) : Prop := ∀ c ∈ l, c ≠ 123 ∧ c ≠ 125
/-- A pattern: three texts without braces and two places (sw: the second one first). -/
structure Pat (s x y z : List UInt8) (sw : Bool) : Prop where
  eq : s = x ++ ((if sw then p1 else p0) ++ (y ++ ((if sw then p0 else p1) ++ z)))
  x : nb x
  y : nb y
  z : nb z
theorem nb_app {a b : List UInt8} : nb (a ++ b) ↔ nb a ∧ nb b := by
  unfold nb
  constructor
  · exact fun h => ⟨fun c hc => h c (by simp [hc]), fun c hc => h c (by simp [hc])⟩
  · rintro ⟨h1, h2⟩ c hc
    rcases List.mem_append.1 hc with h | h
    · exact h1 c h
    · exact h2 c h

/-! ### the reference -/
def rp : List UInt8 → Nat → Nat → Bool
  | [], a, b => a == 1 && b == 1
  | c :: l, a, b =>
    match c, l with
    | 123, 48 :: 125 :: r => rp r (a + 1) b
    | 123, 49 :: 125 :: r => rp r a (b + 1)
    | c, l => if c = 123 ∨ c = 125 then false else rp l a b
theorem rp_p0 (r : List UInt8) (a b : Nat) : rp (p0 ++ r) a b = rp r (a + 1) b := by
  show rp (123 :: 48 :: 125 :: r) a b = _
  rw [rp]
theorem rp_p1 (r : List UInt8) (a b : Nat) : rp (p1 ++ r) a b = rp r a (b + 1) := by
  show rp (123 :: 49 :: 125 :: r) a b = _
  rw [rp]
theorem rp_nb : ∀ (x r : List UInt8) (a b : Nat), nb x → rp (x ++ r) a b = rp r a b
  | [], _, _, _, _ => rfl
  | c :: x, r, a, b, h => by
    obtain ⟨h1, h2⟩ := h c (by simp)
    rw [List.cons_append, rp]
    · rw [if_neg (by simp [h1, h2]), rp_nb x r a b fun d hd => h d (by simp [hd])]
    · rintro _ rfl; exact absurd rfl h1
    · rintro _ rfl; exact absurd rfl h1
theorem rp_of_Pat {s x y z : List UInt8} {sw : Bool} (h : Pat s x y z sw) : rp s 0 0 = true := by
  rw [h.eq, rp_nb _ _ _ _ h.x]
  have hz : ∀ a b, rp z a b = (a == 1 && b == 1) := fun a b => by
    have := rp_nb z [] a b h.z
    rw [List.append_nil] at this
    rw [this, rp]
  cases sw with
  | false => simp only [Bool.false_eq_true, if_false]; rw [rp_p0, rp_nb _ _ _ _ h.y, rp_p1, hz]; rfl
  | true => simp only [if_true]; rw [rp_p1, rp_nb _ _ _ _ h.y, rp_p0, hz]; rfl

theorem rp_cons (c : UInt8) (l : List UInt8) (a b : Nat) (h : c ≠ 123) : rp (c :: l) a b = if c = 125 then false else rp l a b := by
  rw [rp]
  · simp [h]
  · rintro _ rfl; exact absurd rfl h
  · rintro _ rfl; exact absurd rfl h
theorem rp_open (l : List UInt8) (a b : Nat) (h0 : ∀ r, l ≠ 48 :: 125 :: r) (h1 : ∀ r, l ≠ 49 :: 125 :: r) : rp (123 :: l) a b = false := by
  rw [rp]
  · simp
  · rintro r _ rfl; exact h0 r rfl
  · rintro r _ rfl; exact h1 r rfl
theorem rp_inv : ∀ (n : Nat) (s : List UInt8) (a b : Nat), s.length ≤ n → rp s a b = true → a ≤ 1 ∧ b ≤ 1 ∧ (a = 1 → b = 1 → nb s) ∧ (a = 1 → b = 0 → ∃ y z, s = y ++ (p1 ++ z) ∧ nb y ∧ nb z) ∧
    (a = 0 → b = 1 → ∃ y z, s = y ++ (p0 ++ z) ∧ nb y ∧ nb z) ∧ (a = 0 → b = 0 → ∃ x y z sw, Pat s x y z sw) := by
  intro n
  induction n with
  | zero =>
    intro s a b hs h
    have : s = [] := List.eq_nil_of_length_eq_zero (by omega)
    subst this
    rw [rp] at h
    simp only [Bool.and_eq_true, beq_iff_eq] at h
    exact ⟨by omega, by omega, fun _ _ c hc => absurd hc (by simp), fun _ _ => by omega, fun _ _ => by omega, fun _ _ => by omega⟩
  | succ n ih =>
    intro s a b hs h
    cases s with
    | nil =>
      rw [rp] at h
      simp only [Bool.and_eq_true, beq_iff_eq] at h
      exact ⟨by omega, by omega, fun _ _ c hc => absurd hc (by simp), fun _ _ => by omega, fun _ _ => by omega, fun _ _ => by omega⟩
    | cons c l =>
      simp only [List.length_cons] at hs
      by_cases hc : c = 123
      · subst hc
        by_cases k0 : ∃ r, l = 48 :: 125 :: r
        · obtain ⟨r, rfl⟩ := k0
          rw [show (123 :: 48 :: 125 :: r : List UInt8) = p0 ++ r from rfl, rp_p0] at h
          obtain ⟨i1, i2, i3, i4, i5, i6⟩ := ih r (a + 1) b (by simp only [List.length_cons] at hs; omega) h
          refine ⟨by omega, i2, fun e => by omega, fun e => by omega, fun ea eb => ⟨[], r, rfl, fun c hc => absurd hc (by simp), i3 (by omega) eb⟩, fun ea eb => ?_⟩
          obtain ⟨y, z, e, hy, hz⟩ := i4 (by omega) eb
          exact ⟨[], y, z, false, ⟨by rw [e]; rfl, fun c hc => absurd hc (by simp), hy, hz⟩⟩
        by_cases k1 : ∃ r, l = 49 :: 125 :: r
        · obtain ⟨r, rfl⟩ := k1
          rw [show (123 :: 49 :: 125 :: r : List UInt8) = p1 ++ r from rfl, rp_p1] at h
          obtain ⟨i1, i2, i3, i4, i5, i6⟩ := ih r a (b + 1) (by simp only [List.length_cons] at hs; omega) h
          refine ⟨i1, by omega, fun _ e => by omega, fun ea eb => ⟨[], r, rfl, fun c hc => absurd hc (by simp), i3 ea (by omega)⟩, fun _ e => by omega, fun ea eb => ?_⟩
          obtain ⟨y, z, e, hy, hz⟩ := i5 ea (by omega)
          exact ⟨[], y, z, true, ⟨by rw [e]; rfl, fun c hc => absurd hc (by simp), hy, hz⟩⟩
        rw [rp_open l a b (fun r e => k0 ⟨r, e⟩) (fun r e => k1 ⟨r, e⟩)] at h
        cases h
      · rw [rp_cons c l a b hc] at h
        by_cases h125 : c = 125
        · rw [if_pos h125] at h; cases h
        rw [if_neg h125] at h
        obtain ⟨i1, i2, i3, i4, i5, i6⟩ := ih l a b (by omega) h
        have ext : ∀ {y : List UInt8}, nb y → nb (c :: y) := fun {y} hy d hd => by
          rcases List.mem_cons.1 hd with rfl | hd
          · exact ⟨hc, h125⟩
          · exact hy d hd
        refine ⟨i1, i2, fun ea eb => ext (i3 ea eb), fun ea eb => ?_, fun ea eb => ?_, fun ea eb => ?_⟩
        · obtain ⟨y, z, e, hy, hz⟩ := i4 ea eb
          exact ⟨c :: y, z, by rw [e]; rfl, ext hy, hz⟩
        · obtain ⟨y, z, e, hy, hz⟩ := i5 ea eb
          exact ⟨c :: y, z, by rw [e]; rfl, ext hy, hz⟩
        · obtain ⟨x, y, z, sw, hp⟩ := i6 ea eb
          exact ⟨c :: x, y, z, sw, ⟨by rw [hp.eq]; rfl, ext hp.x, hp.y, hp.z⟩⟩
theorem rp_iff (s : List UInt8) : rp s 0 0 = true ↔ ∃ x y z sw, Pat s x y z sw :=
  ⟨fun h => (rp_inv s.length s 0 0 (Nat.le_refl _) h).2.2.2.2.2 rfl rfl, fun ⟨_, _, _, _, h⟩ => rp_of_Pat h⟩

/-! ### the program -/
def vp (s : List UInt8) : Bool :=
  decide (Lib.count s p0 = 1) && (decide (Lib.count (Lib.replace s p0 [0] 1) p1 = 1) && (Lib.replace (Lib.replace s p0 [0] 1) p1 [0] 1).all fun c => !([123, 125] : List UInt8).contains c)
theorem nb_all {l : List UInt8} : (l.all fun c => !([123, 125] : List UInt8).contains c) = true ↔ nb l := by
  rw [List.all_eq_true]
  unfold nb
  simp
theorem nb_at {s : List UInt8} {u v : List UInt8} {sub : List UInt8} (h : nb (u ++ 0 :: v)) (_ : s = u ++ sub ++ v) : nb u ∧ nb v := by
  obtain ⟨h1, h2⟩ := nb_app.1 h
  exact ⟨h1, fun c hc => h2 c (by simp [hc])⟩
theorem fnd_nb {r : List UInt8} (h : nb r) (sub : List UInt8) : fnd (123 :: sub) r = r.length := by
  have := fnd_skip1 (c0 := 123) (sub := sub) r [] fun c hc => (h c hc).1
  rw [List.append_nil] at this
  rw [this]; rfl
/-- Where a part of three bytes with braces around and a digit lies in a text with one other such part. -/
theorem split_at {u v u' v' : List UInt8} (h : u ++ 0 :: v = u' ++ (p1 ++ v')) : (∃ m, u = u' ++ (p1 ++ m) ∧ v' = m ++ 0 :: v) ∨ (∃ m, u' = u ++ 0 :: m ∧ v = m ++ (p1 ++ v')) := by
  rcases List.append_eq_append_iff.1 h with ⟨m, h1, h2⟩ | ⟨m, h1, h2⟩
  · cases m with
    | nil => simp [p1] at h2
    | cons d m =>
      rw [List.cons_append] at h2
      injection h2 with e1 e2
      subst e1
      exact .inr ⟨m, h1, e2⟩
  · left
    match m, h2 with
    | [], h2 => simp [p1] at h2
    | [a], h2 => simp [p1] at h2
    | [a, b], h2 => simp [p1] at h2
    | a :: b :: c :: m, h2 =>
      simp only [p1, List.cons_append, List.nil_append, List.cons.injEq] at h2
      obtain ⟨rfl, rfl, rfl, e⟩ := h2
      exact ⟨m, h1, e⟩
theorem vp_iff (s : List UInt8) : vp s = true ↔ ∃ x y z sw, Pat s x y z sw := by
  unfold vp
  simp only [Bool.and_eq_true, decide_eq_true_eq, nb_all]
  have n0 : p0 ≠ [] := by decide
  have n1 : p1 ≠ [] := by decide
  constructor
  · rintro ⟨h0, h1, h2⟩
    rw [count_one n0] at h0
    obtain ⟨k0, _⟩ := h0
    rw [replace_one n0 (by decide) k0] at h1 h2
    obtain ⟨v, e0, ev⟩ := fnd_at s k0
    rw [← ev] at h1 h2
    generalize s.take (fnd p0 s) = u at *
    rw [count_one n1] at h1
    obtain ⟨k1, _⟩ := h1
    rw [replace_one n1 (by decide) k1] at h2
    obtain ⟨v', e1, ev'⟩ := fnd_at _ k1
    rw [← ev'] at h2
    generalize (u ++ [0] ++ v).take (fnd p1 (u ++ [0] ++ v)) = u' at *
    have hb : nb u' ∧ nb v' := nb_at (s := u ++ [0] ++ v) (by simpa using h2) e1
    have e1' : u ++ 0 :: v = u' ++ (p1 ++ v') := by simpa using e1
    rcases split_at e1' with ⟨m, q1, q2⟩ | ⟨m, q1, q2⟩
    · refine ⟨u', m, v, true, ⟨by rw [e0, q1]; simp, hb.1, ?_, ?_⟩⟩
      · exact fun c hc => hb.2 c (by rw [q2]; simp [hc])
      · exact fun c hc => hb.2 c (by rw [q2]; simp [hc])
    · refine ⟨u, m, v', false, ⟨by rw [e0, q2]; simp, ?_, ?_, hb.2⟩⟩
      · exact fun c hc => hb.1 c (by rw [q1]; simp [hc])
      · exact fun c hc => hb.1 c (by rw [q1]; simp [hc])
  · rintro ⟨x, y, z, sw, h⟩
    have hz : ∀ {r : List UInt8}, nb r → ∀ sub, ¬ fnd (123 :: sub) r < r.length := fun {r} hr sub => by rw [fnd_nb hr]; omega
    have skip : ∀ (a b : List UInt8) (sub : List UInt8), nb a → fnd (123 :: sub) (a ++ b) = a.length + fnd (123 :: sub) b := fun a b sub ha => fnd_skip1 a b fun c hc => (ha c hc).1
    have hno : ∀ c ∈ ([0] : List UInt8), c ≠ 123 ∧ c ≠ 125 := by decide
    cases sw with
    | false =>
      have e : s = x ++ (p0 ++ (y ++ (p1 ++ z))) := h.eq
      have f0 : fnd p0 s = x.length := by rw [e, show p0 = 123 :: [48, 125] from rfl, skip _ _ _ h.x, ← show p0 = 123 :: [48, 125] from rfl, fnd_here]; rfl
      have d0 : s.drop (fnd p0 s + p0.length) = y ++ (p1 ++ z) := by rw [f0, e, ← List.drop_drop, List.drop_left, List.drop_left]
      have t0 : s.take (fnd p0 s) = x := by rw [f0, e, List.take_left]
      have g0 : ∀ r, fnd p0 (p1 ++ r) = 3 + fnd p0 r := fun r => by
        show fnd p0 (123 :: 49 :: 125 :: r) = _
        rw [fnd_cons, fnd_cons, fnd_cons]
        simp [p0, List.isPrefixOf]
        omega
      have h0 : Lib.count s p0 = 1 := by
        rw [count_one n0, d0, f0]
        refine ⟨by rw [e]; simp [p0] <;> omega, ?_⟩
        rw [show p0 = 123 :: [48, 125] from rfl, skip _ _ _ h.y, ← show p0 = 123 :: [48, 125] from rfl, g0, show p0 = 123 :: [48, 125] from rfl, fnd_nb h.z]
        simp [p1] <;> omega
      have r0 : Lib.replace s p0 [0] 1 = (x ++ [0] ++ y) ++ (p1 ++ z) := by
        rw [replace_one n0 (by decide) (by rw [f0, e]; simp [p0] <;> omega), t0, d0]; simp
      have hxy : nb (x ++ [0] ++ y) := nb_app.2 ⟨nb_app.2 ⟨h.x, hno⟩, h.y⟩
      rw [r0]
      have f1 : fnd p1 ((x ++ [0] ++ y) ++ (p1 ++ z)) = (x ++ [0] ++ y).length := by rw [show p1 = 123 :: [49, 125] from rfl, skip _ _ _ hxy, ← show p1 = 123 :: [49, 125] from rfl, fnd_here]; rfl
      have d1 : ((x ++ [0] ++ y) ++ (p1 ++ z)).drop (fnd p1 ((x ++ [0] ++ y) ++ (p1 ++ z)) + p1.length) = z := by rw [f1, ← List.drop_drop, List.drop_left, List.drop_left]
      have t1 : ((x ++ [0] ++ y) ++ (p1 ++ z)).take (fnd p1 ((x ++ [0] ++ y) ++ (p1 ++ z))) = x ++ [0] ++ y := by rw [f1, List.take_left]
      have l1 : fnd p1 ((x ++ [0] ++ y) ++ (p1 ++ z)) < ((x ++ [0] ++ y) ++ (p1 ++ z)).length := by rw [f1]; simp [p1] <;> omega
      refine ⟨h0, ?_, ?_⟩
      · rw [count_one n1, d1]
        exact ⟨l1, hz h.z _⟩
      · rw [replace_one n1 (by decide) l1, d1, t1]
        exact nb_app.2 ⟨nb_app.2 ⟨hxy, hno⟩, h.z⟩
    | true =>
      have e : s = x ++ (p1 ++ (y ++ (p0 ++ z))) := h.eq
      have g0 : ∀ r, fnd p0 (p1 ++ r) = 3 + fnd p0 r := fun r => by
        show fnd p0 (123 :: 49 :: 125 :: r) = _
        rw [fnd_cons, fnd_cons, fnd_cons]
        simp [p0, List.isPrefixOf]
        omega
      have f0 : fnd p0 s = (x ++ p1 ++ y).length := by
        rw [e, show p0 = 123 :: [48, 125] from rfl, skip _ _ _ h.x, ← show p0 = 123 :: [48, 125] from rfl, g0, show p0 = 123 :: [48, 125] from rfl, skip _ _ _ h.y, ← show p0 = 123 :: [48, 125] from rfl, fnd_here]
        simp [p1]
        omega
      have e' : s = (x ++ p1 ++ y) ++ (p0 ++ z) := by rw [e]; simp
      have d0 : s.drop (fnd p0 s + p0.length) = z := by rw [f0, e', ← List.drop_drop, List.drop_left, List.drop_left]
      have t0 : s.take (fnd p0 s) = x ++ p1 ++ y := by rw [f0, e', List.take_left]
      have l0 : fnd p0 s < s.length := by rw [f0, e']; simp [p0] <;> omega
      have h0 : Lib.count s p0 = 1 := by
        rw [count_one n0, d0]
        exact ⟨l0, hz h.z _⟩
      have r0 : Lib.replace s p0 [0] 1 = x ++ (p1 ++ (y ++ [0] ++ z)) := by
        rw [replace_one n0 (by decide) l0, t0, d0]; simp
      have hyz : nb (y ++ [0] ++ z) := nb_app.2 ⟨nb_app.2 ⟨h.y, hno⟩, h.z⟩
      rw [r0]
      have f1 : fnd p1 (x ++ (p1 ++ (y ++ [0] ++ z))) = x.length := by rw [show p1 = 123 :: [49, 125] from rfl, skip _ _ _ h.x, ← show p1 = 123 :: [49, 125] from rfl, fnd_here]; rfl
      have d1 : (x ++ (p1 ++ (y ++ [0] ++ z))).drop (fnd p1 (x ++ (p1 ++ (y ++ [0] ++ z))) + p1.length) = y ++ [0] ++ z := by rw [f1, ← List.drop_drop, List.drop_left, List.drop_left]
      have t1 : (x ++ (p1 ++ (y ++ [0] ++ z))).take (fnd p1 (x ++ (p1 ++ (y ++ [0] ++ z)))) = x := by rw [f1, List.take_left]
      have l1 : fnd p1 (x ++ (p1 ++ (y ++ [0] ++ z))) < (x ++ (p1 ++ (y ++ [0] ++ z))).length := by rw [f1]; simp [p1] <;> omega
      refine ⟨h0, ?_, ?_⟩
      · rw [count_one n1, d1]
        exact ⟨l1, hz hyz _⟩
      · rw [replace_one n1 (by decide) l1, d1, t1]
        exact nb_app.2 ⟨nb_app.2 ⟨h.x, hno⟩, hyz⟩
theorem vp_rp (s : List UInt8) : vp s = rp s 0 0 := by
  rw [Bool.eq_iff_iff, vp_iff, rp_iff]
end Go.Proofs.YtnmiodonophfbaaDoor
