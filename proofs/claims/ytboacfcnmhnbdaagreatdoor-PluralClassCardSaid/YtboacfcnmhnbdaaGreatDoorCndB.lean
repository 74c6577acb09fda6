/- Operands of numbers: the program's and the reference's are one function. -/
import Derived.Test.YtboacfcnmhnbdaaGreatDoorCndA
set_option linter.unusedVariables false
namespace Go.Proofs.YtboacfcnmhnbdaaGreatDoor
open Go.X

/-! ### the number that digits spell -/
def vl (acc : Nat) (s : List UInt8) : Nat := s.foldl (fun n c => 10 * n + (c.toNat - 48)) acc
theorem dgt_iff {c : UInt8} : dgt c = true ↔ 48 ≤ c.toNat ∧ c.toNat ≤ 57 := by unfold dgt; simp
theorem decFrom_vl : ∀ (s : List UInt8) (acc : Nat), s.all dgt = true → Lib.decFrom acc s = some (vl acc s)
  | [], _, _ => rfl
  | c :: s, acc, h => by
    rw [List.all_cons, Bool.and_eq_true] at h
    have hc := dgt_iff.1 h.1
    have : Lib.digitVal c = some (c.toNat - 48) := by unfold Lib.digitVal; rw [if_pos hc]
    rw [Lib.decFrom, this]
    simp only
    rw [decFrom_vl s _ h.2, Nat.mul_comm acc 10]
    rfl
theorem vl_lt : ∀ (s : List UInt8) (acc k : Nat), s.all dgt = true → acc < 10 ^ k → vl acc s < 10 ^ (k + s.length)
  | [], acc, k, _, h => by simpa [vl] using h
  | c :: s, acc, k, h, ha => by
    rw [List.all_cons, Bool.and_eq_true] at h
    have hc := dgt_iff.1 h.1
    have := vl_lt s (10 * acc + (c.toNat - 48)) (k + 1) h.2 (by rw [Nat.pow_succ]; omega)
    rw [show k + (c :: s).length = k + 1 + s.length by simp only [List.length_cons]; omega]
    exact this
theorem pow_le18 {k : Nat} (h : k ≤ 18) : 10 ^ k ≤ 1000000000000000000 := by
  have : 10 ^ k ≤ 10 ^ 18 := Nat.pow_le_pow_right (by omega) h
  simpa using this
theorem decimal_value_eq {N : Nat} {s : List UInt8} (hl : s.length ≤ 15) (hd : s.all dgt = true) : decimal_value N s = some (vl 0 s : Int) := by
  unfold decimal_value
  rw [cat_some (by simp only [List.length_cons, List.length_nil]; omega)]
  simp only [Option.bind_some]
  unfold strconv_Atoi
  rw [if_pos (by simp only [List.length_append, List.length_cons, List.length_nil]; omega)]
  have hlt := vl_lt s 0 0 hd (by simp)
  have hp := pow_le18 (k := 0 + s.length) (by omega)
  have e : Lib.atoi ([48] ++ s) = some (vl 0 s : Int) := by
    have h1 : Lib.decNat (48 :: s) = some (vl 0 s) := by
      unfold Lib.decNat
      rw [if_neg (by simp), decFrom_vl _ _ (by rw [List.all_cons, hd]; rfl)]
      rfl
    show Lib.atoi (48 :: s) = _
    simp only [Lib.atoi, h1]
    rfl
  rw [e]
  simp only
  rw [if_pos (inR_i64.2 ⟨by omega, by omega⟩)]
  rfl
theorem ref_Value_eq {N : Nat} {s : List UInt8} (hl : s.length ≤ 15) (hd : s.all dgt = true) (hN : s.length < N) : calqueref07_Value N s = some (vl 0 s : Int) := by
  unfold calqueref07_Value
  have hrun : ∀ (xs : List UInt8) (n : Nat), run (σ := Nat) (β := Int) (fun n (c : UInt8) => .inl (10 * n + (c.toNat - 48))) (fun n => (n : Int)) n xs = (vl n xs : Int) := by
    intro xs
    induction xs with
    | nil => intro n; rfl
    | cons c xs ih => intro n; unfold run; simp only; rw [ih]; rfl
  have := iter_list (body := fun s_1 : Int × Int => calqueref07_Value_b1 N s s_1.1 s_1.2) (σ := Nat) (fun n k => ((n : Int), k)) s (fun n (c : UInt8) => .inl (10 * n + (c.toNat - 48))) (fun n => (n : Int)) (fun k n => n < 10 ^ k) (fun n k c hk hI => ?_) (fun n _ => ?_) N 0 hN (by simp)
  · rw [show ((0 : Int), (0 : Int)) = (((0 : Nat) : Int), 0) from rfl, this, hrun]
    rfl
  · have hlt := getlt hk
    have hc := dgt_iff.1 (List.all_eq_true.1 hd c (List.mem_of_getElem? hk))
    have hp := pow_le18 (k := k + 1) (by omega)
    rw [Nat.pow_succ] at hp
    constructor
    · show calqueref07_Value_b1 N s n k = _
      unfold calqueref07_Value_b1
      simp only [dltx hk, cond_true, idx_some hk, Option.bind_some]
      have e1 : IntKind.wrap .u8 ((c.toNat : Int) - 48) = (c.toNat : Int) - 48 := wrap_of (inR_u8.2 ⟨by omega, by omega⟩)
      have e2 : IntKind.wrap .i64 ((10 : Int) * (n : Int)) = 10 * (n : Int) := wrap_of (inR_i64.2 ⟨by omega, by omega⟩)
      rw [e1, e2, wrap_of (inR_i64.2 ⟨by omega, by omega⟩)]
      congr 3
      simp only [Int.natCast_add, Int.natCast_mul]
      congr 1
      omega
    · rintro n' ⟨⟩
      rw [Nat.pow_succ]; omega
  · show calqueref07_Value_b1 N s n s.length = _
    unfold calqueref07_Value_b1
    simp only [dnlt, cond_false]

/-! ### zeros at the end -/
def rt (s : List UInt8) : List UInt8 := Lib.trimRightS s [48]
theorem rt_snoc (l : List UInt8) (c : UInt8) : rt (l ++ [c]) = if zr c then rt l else l ++ [c] := by
  unfold rt Lib.trimRightS zr
  rw [List.reverse_append]
  simp only [List.reverse_cons, List.reverse_nil, List.nil_append, List.cons_append, List.dropWhile_cons]
  by_cases h : c = 48
  · subst h; simp
  · simp [h]
theorem snoc_ind {p : List UInt8 → Prop} (h0 : p []) (h1 : ∀ l c, p l → p (l ++ [c])) (l : List UInt8) : p l := by
  rw [← List.reverse_reverse l]
  induction l.reverse with
  | nil => exact h0
  | cons c t ih => rw [List.reverse_cons]; exact h1 _ _ ih
theorem rt_nil (s : List UInt8) : rt s = [] ↔ s.all zr = true := by
  induction s using snoc_ind with
  | h0 => exact ⟨fun _ => rfl, fun _ => rfl⟩
  | h1 l c ih =>
    rw [rt_snoc, List.all_append]
    cases h : zr c with
    | true => simp [ih, h]
    | false => simp [h]
theorem rt_len (s : List UInt8) : (rt s).length ≤ s.length := by
  induction s using snoc_ind with
  | h0 => exact Nat.le_refl _
  | h1 l c ih => rw [rt_snoc]; split; rw [List.length_append]; omega; exact Nat.le_refl _
theorem rt_all {p : UInt8 → Bool} (s : List UInt8) (h : s.all p = true) : (rt s).all p = true := by
  induction s using snoc_ind with
  | h0 => rfl
  | h1 l c ih =>
    rw [rt_snoc]
    split
    · rw [List.all_append, Bool.and_eq_true] at h; exact ih h.1
    · exact h
theorem ref_Trim_eq : ∀ {s : List UInt8} {N : Nat}, s.length < N → s.length < 1000000 → calqueref07_Trim N s = some (rt s) := by
  have key : ∀ (s : List UInt8) (N M : Nat), s.length < N → s.length < 1000000 → iter (fun s => calqueref07_Trim_b1 M s) N s = some (rt s) := by
    intro s
    induction s using snoc_ind with
    | h0 =>
      intro N M hN _
      obtain ⟨N, rfl⟩ : ∃ K, N = K + 1 := ⟨N - 1, by omega⟩
      rfl
    | h1 l c ih =>
      intro N M hN hl
      obtain ⟨N, rfl⟩ : ∃ K, N = K + 1 := ⟨N - 1, by omega⟩
      rw [List.length_append, List.length_singleton] at hN hl
      have e1 : decide (((l ++ [c]).length : Int) > 0) = true := decide_eq_true (by rw [List.length_append, List.length_singleton]; omega)
      have e2 : (((l ++ [c]).length : Int) - 1) = (l.length : Int) := by rw [List.length_append, List.length_singleton]; omega
      have e3 : idx (l ++ [c]) (l.length : Int) = some c := idx_some (by simp)
      have e4 : slc (l ++ [c]) 0 (l.length : Int) = some l := by rw [slc_take (by simp)]; simp
      have e5 : ((c.toNat : Int) == 48) = zr c := by
        unfold zr
        by_cases h : c = 48
        · subst h; rfl
        · rw [show (c == 48) = false from beq_eq_false_iff_ne.2 h, beq_eq_false_iff_ne]
          intro e; exact h (UInt8.toNat_inj.1 (by show c.toNat = 48; omega))
      rw [rt_snoc]
      cases hz : zr c with
      | true =>
        have hb : calqueref07_Trim_b1 M (l ++ [c]) = some (.inl l) := by
          unfold calqueref07_Trim_b1
          simp only [e1, cond_true, e2, e3, Option.bind_some, e5, hz, e4]
        rw [iter_inl hb, ih N M (by omega) (by omega)]
        rfl
      | false =>
        have hb : calqueref07_Trim_b1 M (l ++ [c]) = some (.inr (l ++ [c])) := by
          unfold calqueref07_Trim_b1
          simp only [e1, cond_true, e2, e3, Option.bind_some, e5, hz, cond_false]
        rw [iter_inr hb]
        rfl
  intro s N hN hl
  unfold calqueref07_Trim
  rw [key s N N hN hl]
  rfl

/-! ### the operands -/
def opd (s : List UInt8) (o : Int) : Int × Int :=
  if vld s then
    if o = 1 then (if (fr s).all zr then ((vl 0 (wh s) : Int), 0) else (0, 8))
    else if o = 2 then ((vl 0 (wh s) : Int), 0)
    else if o = 3 then (((fr s).length : Int), 0)
    else if o = 4 then (((rt (fr s)).length : Int), 0)
    else if o = 5 then ((vl 0 (fr s) : Int), 0)
    else if o = 6 then ((vl 0 (rt (fr s)) : Int), 0)
    else (0, 1)
  else (0, 1)
theorem vld_facts {s : List UInt8} (h : vld s = true) : (wh s).length ≤ 15 ∧ (wh s).all dgt = true ∧ (fr s).length ≤ 6 ∧ (fr s).all dgt = true := by
  unfold vld at h
  simp only [Bool.and_eq_true, Bool.not_eq_true', decide_eq_false_iff_not] at h
  obtain ⟨_, h2, h3, _, _, h4, h5, _⟩ := h
  exact ⟨by omega, h3, by omega, h5⟩
theorem beq_op (o k : Int) : (o == k) = decide (o = k) := by by_cases h : o = k <;> simp [h]
theorem prog_Operand_eq {N : Nat} {s : List UInt8} (hs : s.length ≤ 1000) (o : Int) : decimal_Operand N s o = some (opd s o) := by
  unfold decimal_Operand opd
  rw [decimal_split_eq hs]
  simp only [Option.bind_some]
  cases hv : vld s with
  | false => rfl
  | true =>
    obtain ⟨h1, h2, h3, h4⟩ := vld_facts hv
    have et : strings_TrimRight N (fr s) [48] = some (rt (fr s)) := by unfold strings_TrimRight; rw [if_pos ⟨by decide, by decide⟩]; rfl
    have er : (rt (fr s) != []) = !((fr s).all zr) := by
      have := rt_nil (fr s)
      cases ha : (fr s).all zr with
      | true => rw [this.2 ha]; rfl
      | false =>
        have : rt (fr s) ≠ [] := fun e => by rw [this.1 e] at ha; cases ha
        simpa using this
    simp only [Bool.not_true, cond_false, et, Option.bind_some, er, decimal_value_eq h1 h2, decimal_value_eq (by omega : (fr s).length ≤ 15) h4, decimal_value_eq (by have := rt_len (fr s); omega : (rt (fr s)).length ≤ 15) (rt_all _ h4), beq_op, if_true, Bool.cond_decide]
    cases (fr s).all zr <;> simp only [Bool.not_true, Bool.not_false, cond_true, cond_false, if_true, Bool.false_eq_true, if_false] <;> repeat' split
    all_goals first | rfl | contradiction
theorem ref_Operand_eq {N : Nat} {s : List UInt8} (hs : s.length ≤ 1000) (hN : 3000 ≤ N) (o : Int) : calqueref07_Operand N s o = some (opd s o) := by
  unfold calqueref07_Operand opd
  rw [ref_split_eq hs hN]
  simp only [Option.bind_some]
  cases hv : vld s with
  | false => rfl
  | true =>
    obtain ⟨h1, h2, h3, h4⟩ := vld_facts hv
    have hr := rt_len (fr s)
    simp only [Bool.not_true, cond_false, if_true, Option.bind_some, ref_Zero_eq (show (fr s).length < N by omega), ref_Value_eq (N := N) h1 h2 (by omega), ref_Value_eq (N := N) (by omega : (fr s).length ≤ 15) h4 (by omega), ref_Trim_eq (show (fr s).length < N by omega) (by omega),
      ref_Value_eq (N := N) (by omega : (rt (fr s)).length ≤ 15) (rt_all _ h4) (by omega), beq_op, Bool.cond_decide]
    cases (fr s).all zr <;> simp only [Bool.not_true, Bool.not_false, cond_true, cond_false, if_true, Bool.false_eq_true, if_false] <;> repeat' split
    all_goals first | rfl | contradiction
end Go.Proofs.YtboacfcnmhnbdaaGreatDoor
