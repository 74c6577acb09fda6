/- The law Integers. -/
import Derived.Test.YtidfofhmnlhfjaaGreatDoorDcd4
set_option linter.unusedVariables false
namespace Go.Proofs.YtidfofhmnlhfjaaGreatDoor
open Go.X

theorem hd_congr {s t : Str} {c : Cnd} (h : ∀ l ∈ c, ∀ r ∈ l, hold t r = hold s r) : hd t c = hd s c := by
  unfold hd
  have e : ∀ l ∈ c, l.all (hold t) = l.all (hold s) := by
    intro l hl
    rw [Bool.eq_iff_iff, List.all_eq_true, List.all_eq_true]
    exact ⟨fun k r hr => by rw [← h l hl r hr]; exact k r hr, fun k r hr => by rw [h l hl r hr]; exact k r hr⟩
  rw [Bool.eq_iff_iff, List.any_eq_true, List.any_eq_true]
  exact ⟨fun ⟨l, hl, k⟩ => ⟨l, hl, by rw [← e l hl]; exact k⟩, fun ⟨l, hl, k⟩ => ⟨l, hl, by rw [e l hl]; exact k⟩⟩
def csz (l : List Cnd) : Nat := (l.map sz).sum
structure Cs (N : Nat) (l : List Cnd) : Prop where
  n : 4000 ≤ N
  len : l.length < N
  s : ∀ c ∈ l, Sz N c
theorem Cs.of {N : Nat} {l : List Cnd} (h : csz l + l.length + 4000 ≤ N) : Cs N l :=
  ⟨by omega, by omega, fun c hc => Sz.of (by have := mem_sum (f := sz) hc; unfold csz at h; omega)⟩
theorem few_some {N : Nat} {l : List Cnd} (S : Cs N l) : ∃ b, calquelaw10_few N l = some b ∧ (b = true → l.length ≤ 12) := by
  unfold calquelaw10_few
  have h := iter_list' (body := fun i => calquelaw10_few_b1 N l i) (σ := Unit) (fun _ i => i) l (fun _ x => if (calqueref08_Few N x).getD false then .inl () else .inr (.inr false)) (fun _ => .inl ()) (fun _ k x hk => ?_) (fun _ => ?_) N () S.len
  · rw [h]
    have hr : ∀ (xs : List Cnd) (b : Bool), run (σ := Unit) (β := Unit ⊕ Bool) (fun _ x => if (calqueref08_Few N x).getD false then .inl () else .inr (.inr false)) (fun _ => .inl ()) () xs = .inr b → b = false := by
      intro xs
      induction xs with
      | nil => intro b h; cases h
      | cons x xs ih =>
        intro b h
        rw [run] at h
        cases hx : (calqueref08_Few N x).getD false with
        | true => rw [hx] at h; simp only [if_true] at h; exact ih b h
        | false => rw [hx] at h; simp at h; exact h
    cases hrun : run (σ := Unit) (β := Unit ⊕ Bool) (fun _ x => if (calqueref08_Few N x).getD false then .inl () else .inr (.inr false)) (fun _ => .inl ()) () l with
    | inl _ => exact ⟨_, rfl, fun h => by have := of_decide_eq_true h; omega⟩
    | inr b =>
      have := hr l b hrun
      subst this
      exact ⟨false, rfl, fun h => by cases h⟩
  · obtain ⟨b, hb⟩ := Few_some (S.s x (List.mem_of_getElem? hk))
    unfold calquelaw10_few_b1
    simp only [dltx hk, cond_true, idx_some hk, Option.bind_some, hb]
    cases b <;> rfl
  · unfold calquelaw10_few_b1
    simp only [dnlt, cond_false]
theorem ints_same {c : Cnd} (hv : vd c = true) {a b : Nat} (ha : 100 < a) (hb : 100 < b) (ha9 : a < 1000000000) (hb9 : b < 1000000000) (h : a % 300 = b % 300) : hd (dd a) c = hd (dd b) c := by
  refine hd_congr fun l hl r hr => ?_
  have hp0 := vd_prp hv l hl r hr
  rw [← nb_dd a, ← nb_dd b, hold_nb hp0 (dd_Dp ha9), hold_nb hp0 (dd_Dp hb9)]
  unfold hp
  rw [dd_vl, dd_vl]
  cases ho : onW r with
  | false => rfl
  | true => rw [hw_mod hp0 ho ha hb h]
theorem vld_dd {u : Nat} (hu : u < 1000000000) : vld (dd u) = true := by
  have := (nb_parts (dd_Dp hu)).1
  rwa [nb_dd] at this
theorem decideIntegers_law (c : Cnd) (n k : Int) (hn : 0 ≤ n ∧ n < 65536) (hk : 0 ≤ k ∧ k < 65536) : ∃ N, calquelaw10_DecideIntegers N c n k = some true := by
  refine ⟨csz [c] + 6000, ?_⟩
  generalize hNN : csz [c] + 6000 = N
  have S : Cs N [c] := Cs.of (by simp only [List.length_singleton]; omega)
  have S1 : Sz N c := S.s c (by simp)
  have aw : calquelaw10_awake N = some true := by rw [show N = (N - 3000) + 3000 by omega]; exact awake_eq _
  unfold calquelaw10_DecideIntegers
  rw [aw]
  simp only [Option.bind_some, Bool.not_true, cond_false]
  obtain ⟨b, hb, _⟩ := few_some S
  rw [hb]
  simp only [Option.bind_some]
  cases b with
  | false => rfl
  | true =>
    simp only [Bool.not_true, cond_false]
    rw [ref_Valid_c S1]
    simp only [Option.bind_some]
    cases hv : vd c with
    | false => rfl
    | true =>
      simp only [Bool.not_true, cond_false]
      obtain ⟨n, rfl⟩ := Int.eq_ofNat_of_zero_le hn.1
      obtain ⟨k, rfl⟩ := Int.eq_ofNat_of_zero_le hk.1
      have w1 : IntKind.wrap .i64 (n : Int) = (n : Int) := wrap_of (inR_i64.2 ⟨by omega, by omega⟩)
      have w2 : IntKind.wrap .i64 (k : Int) = (k : Int) := wrap_of (inR_i64.2 ⟨by omega, by omega⟩)
      have w3 : IntKind.wrap .i64 ((101 : Int) + (n : Int)) = ((101 + n : Nat) : Int) := by rw [wrap_of (inR_i64.2 ⟨by omega, by omega⟩)]; omega
      have w4 : IntKind.wrap .i64 ((300 : Int) * (k : Int)) = ((300 * k : Nat) : Int) := by rw [wrap_of (inR_i64.2 ⟨by omega, by omega⟩)]; omega
      have w5 : IntKind.wrap .i64 (((101 + n : Nat) : Int) + ((300 * k : Nat) : Int)) = ((101 + n + 300 * k : Nat) : Int) := by rw [wrap_of (inR_i64.2 ⟨by omega, by omega⟩)]; omega
      rw [w1, w2, w3, w4, w5]
      unfold calqueref10_Decimal
      rw [ref_dec (by omega) (by omega), ref_dec (by omega) (by omega)]
      simp only [Option.bind_some]
      have l1 := dd_len 8 (101 + n) (by omega)
      have l2 := dd_len 8 (101 + n + 300 * k) (by omega)
      rw [Holds_eq S1 (by omega), Holds_eq S1 (by omega)]
      unfold hr
      rw [hv, vld_dd (by omega), vld_dd (by omega)]
      simp only [Bool.and_self, if_true, Option.bind_some]
      rw [show ((0 : Int) == 0) = true from rfl, cond_true, cond_true, ints_same hv (a := 101 + n) (b := 101 + n + 300 * k) (by omega) (by omega) (by omega) (by omega) (by omega)]
      simp
theorem u16_of {x : Int} (h : InR .u16 x) : 0 ≤ x ∧ x < 65536 := by
  have h2 : (0 : Int) ≤ x ∧ x ≤ 65535 := h
  omega
end Go.Proofs.YtidfofhmnlhfjaaGreatDoor
