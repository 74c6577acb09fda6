/- Numerals; the law Integers. -/
import Derived.Test.YtidfofhmnlhfjaaGreatDoorDcd2
import Derived.Test.YtidfofhmnlhfjaaGreatDoorExt10i
import Derived.Test.YtidfofhmnlhfjaaGreatDoorLibM
set_option linter.unusedVariables false
namespace Go.Proofs.YtidfofhmnlhfjaaGreatDoor
open Go.X

/-! ### numerals -/
abbrev dd (u : Nat) : Str := Lib.decDigits u
theorem dd_lt {u : Nat} (h : u < 10) : dd u = [UInt8.ofNat (48 + u)] := Lib.decDigits_one h
theorem dd_ge {u : Nat} (h : 10 ≤ u) : dd u = dd (u / 10) ++ [UInt8.ofNat (48 + u % 10)] := by
  show Lib.decDigits u = _
  rw [Lib.decDigits, dif_neg (by omega)]
theorem byte_nat {n : Nat} (h : n < 10) : (UInt8.ofNat (48 + n)).toNat = 48 + n := by
  rw [UInt8.toNat_ofNat']
  exact Nat.mod_eq_of_lt (by omega)
theorem byte_dgt {n : Nat} (h : n < 10) : dgt (UInt8.ofNat (48 + n)) = true := by
  rw [dgt_iff, byte_nat h]; omega
theorem dd_ind {p : Nat → Prop} (h1 : ∀ u, u < 10 → p u) (h2 : ∀ u, 10 ≤ u → p (u / 10) → p u) (u : Nat) : p u := by
  induction u using Nat.strongRecOn with
  | _ u ih =>
    by_cases h : u < 10
    · exact h1 u h
    · exact h2 u (by omega) (ih (u / 10) (by omega))
theorem dd_all (u : Nat) : (dd u).all dgt = true := by
  induction u using dd_ind with
  | h1 u h => rw [dd_lt h]; exact by rw [List.all_cons, byte_dgt h]; rfl
  | h2 u h ih => rw [dd_ge h, List.all_append, ih]; rw [List.all_cons, byte_dgt (show u % 10 < 10 by omega)]; rfl
theorem dd_vl (u : Nat) : vl 0 (dd u) = u := by
  induction u using dd_ind with
  | h1 u h =>
    rw [dd_lt h]
    show 10 * 0 + ((UInt8.ofNat (48 + u)).toNat - 48) = u
    rw [byte_nat h]; omega
  | h2 u h ih =>
    rw [dd_ge h]
    unfold vl
    rw [List.foldl_append]
    show 10 * vl 0 (dd (u / 10)) + ((UInt8.ofNat (48 + u % 10)).toNat - 48) = u
    rw [ih, byte_nat (by omega)]; omega
theorem dd_pos (u : Nat) : 1 ≤ (dd u).length := by
  induction u using dd_ind with
  | h1 u h => rw [dd_lt h]; simp
  | h2 u h ih => rw [dd_ge h]; simp
theorem dd_len : ∀ (k u : Nat), u < 10 ^ (k + 1) → (dd u).length ≤ k + 1
  | 0, u, h => by rw [dd_lt (by simpa using h)]; simp
  | k + 1, u, h => by
    by_cases h1 : u < 10
    · rw [dd_lt h1]; simp
    · have := dd_len k (u / 10) (by rw [Nat.pow_succ] at h; omega)
      rw [dd_ge (by omega), List.length_append]
      simp; omega
theorem dd_low : ∀ (k u : Nat), 10 ^ k ≤ u → k + 1 ≤ (dd u).length
  | 0, u, h => dd_pos u
  | k + 1, u, h => by
    have h10 : 10 ≤ u := by
      have : 10 ^ 1 ≤ 10 ^ (k + 1) := Nat.pow_le_pow_right (by decide) (by omega)
      omega
    have := dd_low k (u / 10) (by rw [Nat.pow_succ] at h; omega)
    rw [dd_ge h10, List.length_append]
    simp; omega
/-- No needless zero ahead. -/
theorem dd_Wh (u : Nat) : Wh (dd u) := by
  refine ⟨dd_all u, ?_⟩
  induction u using dd_ind with
  | h1 u h =>
    rw [dd_lt h]
    by_cases h0 : u = 0
    · subst h0; exact .inl rfl
    · refine .inr ⟨_, [], rfl, fun e => ?_⟩
      have := byte_nat h
      rw [e] at this
      have h48 : (48 : UInt8).toNat = 48 := rfl
      omega
  | h2 u h ih =>
    rw [dd_ge h]
    rcases ih with ih | ⟨c, t, ih, hc⟩
    · exfalso
      have := dd_vl (u / 10)
      rw [ih] at this
      have e : vl 0 ([48] : Str) = 0 := rfl
      omega
    · exact .inr ⟨c, t ++ [UInt8.ofNat (48 + u % 10)], by rw [ih]; rfl, hc⟩
theorem vl_app (a b : Str) : vl 0 (a ++ b) = vl 0 a * 10 ^ b.length + vl 0 b := by
  have e : vl 0 (a ++ b) = vl (vl 0 a) b := by unfold vl; rw [List.foldl_append]
  rw [e, vl_acc]
/-- A whole part is the numeral of its value. -/
theorem dd_inj : ∀ (w : Str), Wh w → dd (vl 0 w) = w := by
  intro w
  induction w using snoc_ind with
  | h0 => intro h; rcases h.2 with h | ⟨c, t, h, _⟩ <;> cases h
  | h1 w d ih =>
    intro h
    have hall := h.1
    rw [List.all_append, Bool.and_eq_true] at hall
    have hd : dgt d = true := by simpa using hall.2
    have hdr := dgt_iff.1 hd
    have hv : vl 0 (w ++ [d]) = 10 * vl 0 w + (d.toNat - 48) := by unfold vl; rw [List.foldl_append]; rfl
    have hb : UInt8.ofNat (48 + (d.toNat - 48)) = d := by
      apply UInt8.toNat_inj.1
      rw [byte_nat (by omega)]; omega
    cases w with
    | nil =>
      rw [hv]
      show dd (10 * 0 + (d.toNat - 48)) = [d]
      rw [dd_lt (by omega), show 10 * 0 + (d.toNat - 48) = d.toNat - 48 by omega, hb]
    | cons c t =>
      have hc : c ≠ 48 := by
        rcases h.2 with h | ⟨c', t', h, hc⟩
        · simp at h
        · simp only [List.cons_append, List.cons.injEq] at h
          rw [h.1]; exact hc
      have hw : Wh (c :: t) := ⟨hall.1, .inr ⟨c, t, rfl, hc⟩⟩
      have hpos : 1 ≤ vl 0 (c :: t) := by
        have e : vl 0 (c :: t) = vl (10 * 0 + (c.toNat - 48)) t := rfl
        rw [e, vl_acc]
        rw [List.all_cons, Bool.and_eq_true] at hall
        have hcr := dgt_iff.1 hall.1.1
        have hne : c.toNat ≠ 48 := fun e => hc (UInt8.toNat_inj.1 e)
        have h1 : 1 ≤ 10 * 0 + (c.toNat - 48) := by omega
        have h2 : 1 ≤ 10 ^ t.length := Nat.pow_pos (by decide)
        have := Nat.mul_le_mul h1 h2
        omega
      have := ih hw
      rw [hv, dd_ge (by omega), show (10 * vl 0 (c :: t) + (d.toNat - 48)) / 10 = vl 0 (c :: t) by omega, this, show (10 * vl 0 (c :: t) + (d.toNat - 48)) % 10 = d.toNat - 48 by omega, hb]
theorem digit_byte {n : Nat} (h : n < 10) : bytesOf [IntKind.wrap .u8 (IntKind.wrap .i64 ((48 : Int) + (n : Int)))] = [UInt8.ofNat (48 + n)] := by
  rw [wrap_id (by omega) (by omega), wrap_of (inR_u8.2 ⟨by omega, by omega⟩)]
  unfold bytesOf
  simp only [List.map_cons, List.map_nil]
  rw [show ((48 : Int) + (n : Int)).toNat = 48 + n by omega]
theorem ref_decimal : ∀ (k N u : Nat), u < 10 ^ (k + 1) → k + 1 < N → u < 1000000000 → calqueref10_decimal N (u : Int) = some (dd u) := by
  intro k
  induction k with
  | zero =>
    intro N u hu hN _
    obtain ⟨N, rfl⟩ : ∃ M, N = M + 1 := ⟨N - 1, by omega⟩
    simp only [Nat.zero_add, Nat.pow_one] at hu
    rw [calqueref10_decimal, show decide ((u : Int) ≥ 10) = false from decide_eq_false (by omega), cond_false, digit_byte hu, dd_lt hu]
  | succ k ih =>
    intro N u hu hN h9
    obtain ⟨N, rfl⟩ : ∃ M, N = M + 1 := ⟨N - 1, by omega⟩
    by_cases h10 : u < 10
    · rw [calqueref10_decimal, show decide ((u : Int) ≥ 10) = false from decide_eq_false (by omega), cond_false, digit_byte h10, dd_lt h10]
    · rw [calqueref10_decimal, show decide ((u : Int) ≥ 10) = true from decide_eq_true (by omega), cond_true]
      have e1 : IntKind.wrap .i64 ((u : Int).tdiv 10) = ((u / 10 : Nat) : Int) := by
        rw [show (u : Int).tdiv 10 = ((u / 10 : Nat) : Int) from rfl]
        exact wrap_of (inR_i64.2 ⟨by omega, by omega⟩)
      have e2 : rm (u : Int) 10 = some (((u % 10 : Nat)) : Int) := rfl
      rw [e1, e2, ih N (u / 10) (by rw [Nat.pow_succ] at hu; omega) (by omega) (by omega)]
      simp only [Option.bind_some]
      obtain ⟨M, rfl⟩ : ∃ M, N = M + 1 := ⟨N - 1, by omega⟩
      have e3 : calqueref10_decimal (M + 1) ((u % 10 : Nat) : Int) = some [UInt8.ofNat (48 + u % 10)] := by
        rw [calqueref10_decimal, show decide (((u % 10 : Nat) : Int) ≥ 10) = false from decide_eq_false (by omega), cond_false, digit_byte (by omega)]
      rw [e3]
      have hl := dd_len 8 (u / 10) (by omega)
      simp only [Option.bind_some]
      rw [cat_some (by simp only [List.length_singleton]; omega)]
      simp only [Option.bind_some]
      rw [dd_ge (u := u) (by omega)]
theorem ref_dec {N u : Nat} (hN : 3000 ≤ N) (hu : u < 1000000000) : calqueref10_decimal N (u : Int) = some (dd u) := ref_decimal 8 N u (by omega) (by omega) hu
theorem dd_Dp {u : Nat} (hu : u < 1000000000) : Dp (dd u) [] := ⟨dd_Wh u, by have := dd_len 8 u (by omega); omega, rfl, by simp⟩
theorem nb_dd (u : Nat) : nb (dd u) [] = dd u := by unfold nb; simp
theorem awake_eq (M : Nat) : calquelaw10_awake (M + 3000) = some true := by kernel_rfl
end Go.Proofs.YtidfofhmnlhfjaaGreatDoor
