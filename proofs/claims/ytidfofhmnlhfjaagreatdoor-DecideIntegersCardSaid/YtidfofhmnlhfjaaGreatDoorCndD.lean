/- Chapter 08: numbers, operands, relations and conditions in plain words. -/
import Derived.Test.YtidfofhmnlhfjaaGreatDoorExt10h
import Derived.Test.YtidfofhmnlhfjaaGreatDoorExt10f
import Derived.Test.YtidfofhmnlhfjaaGreatDoorLibN
set_option linter.unusedVariables false
namespace Go.Proofs.YtidfofhmnlhfjaaGreatDoor
open Go.X

/-! ### digits -/
def dgt (c : UInt8) : Bool := decide (48 ≤ c.toNat) && decide (c.toNat ≤ 57)
def zr (c : UInt8) : Bool := c == 48

theorem dropWhile_nil {α : Type} (p : α → Bool) : ∀ l : List α, l.dropWhile p = [] ↔ ∀ x ∈ l, p x = true
  | [] => by simp
  | b :: l => by
    have ih := dropWhile_nil p l
    cases h : p b with
    | true => simp [h, ih]
    | false => simp [h]
theorem trim_nil (l cs : List UInt8) : (Lib.trimS l cs == []) = l.all (cs.contains ·) := by
  have h : Lib.trimS l cs = [] ↔ ∀ x ∈ l, cs.contains x = true := by
    unfold Lib.trimS Lib.trimLeftS Lib.trimRightS
    rw [dropWhile_nil]
    constructor
    · intro h x hx
      have e := List.takeWhile_append_dropWhile (p := fun b => cs.contains b) (l := l.reverse)
      have hx' : x ∈ l.reverse := List.mem_reverse.2 hx
      rw [← e] at hx'
      rcases List.mem_append.1 hx' with h1 | h1
      · exact List.all_eq_true.1 List.all_takeWhile x h1
      · exact h x (List.mem_reverse.2 h1)
    · intro h x hx
      refine h x ?_
      have := List.mem_reverse.1 hx
      exact List.mem_reverse.1 ((List.dropWhile_sublist _).mem this)
  rw [beq_nil, Bool.eq_iff_iff]
  simp only [decide_eq_true_eq, List.all_eq_true]
  exact h
theorem contains_dgt (c : UInt8) : ([48, 49, 50, 51, 52, 53, 54, 55, 56, 57] : List UInt8).contains c = dgt c := by
  have h : ∀ n, n < 256 → ([48, 49, 50, 51, 52, 53, 54, 55, 56, 57] : List UInt8).contains (UInt8.ofNat n) = dgt (UInt8.ofNat n) := by decide +kernel
  have := h c.toNat c.toNat_lt
  simpa using this
theorem decimal_digits_eq (N : Nat) (s : List UInt8) : decimal_digits N s = some (s.all dgt) := by
  unfold decimal_digits strings_Trim
  rw [if_pos ⟨by decide, by decide⟩]
  simp only [Option.bind_some, trim_nil]
  congr 2
  funext c
  exact contains_dgt c
theorem decimal_zero_eq (N : Nat) (s : List UInt8) : decimal_zero N s = some (s.all zr) := by
  unfold decimal_zero strings_Trim
  rw [if_pos ⟨by decide, by decide⟩]
  simp only [Option.bind_some, trim_nil]
  congr 2
  funext c
  simp [zr]
  rfl
theorem ref_digits_eq {N : Nat} {s : List UInt8} (hN : s.length < N) : calqueref07_digits N s = some (s.all dgt) := by
  unfold calqueref07_digits
  rw [iter_all dgt false s (fun k c hk => ?_) ?_ N hN]
  · cases s.all dgt <;> rfl
  · unfold calqueref07_digits_b1
    simp
  · have hlt := (List.getElem?_eq_some_iff.1 hk).1
    unfold calqueref07_digits_b1
    simp only [idx_some hk, Option.bind_some, show decide ((k : Int) < (s.length : Int)) = true from decide_eq_true (by omega), cond_true]
    unfold dgt
    by_cases h1 : (c.toNat : Int) < 48
    · simp only [decide_eq_true h1, cond_true]
      rw [if_neg]
      simp; omega
    · simp only [decide_eq_false h1, cond_false]
      by_cases h2 : (c.toNat : Int) > 57
      · simp only [decide_eq_true h2, cond_true]
        rw [if_neg]
        simp; omega
      · simp only [decide_eq_false h2, cond_false]
        rw [if_pos]
        simp; omega
theorem ref_Zero_eq {N : Nat} {s : List UInt8} (hN : s.length < N) : calqueref07_Zero N s = some (s.all zr) := by
  unfold calqueref07_Zero
  rw [iter_all zr false s (fun k c hk => ?_) ?_ N hN]
  · cases s.all zr <;> rfl
  · unfold calqueref07_Zero_b1
    simp
  · have hlt := (List.getElem?_eq_some_iff.1 hk).1
    unfold calqueref07_Zero_b1
    simp only [idx_some hk, Option.bind_some, show decide ((k : Int) < (s.length : Int)) = true from decide_eq_true (by omega), cond_true]
    unfold zr
    by_cases h1 : c = 48
    · subst h1; rfl
    · have : ((c.toNat : Int) != 48) = true := by
        rw [bne_iff_ne]
        intro e
        exact h1 (UInt8.toNat_inj.1 (by show c.toNat = 48; omega))
      simp [this, h1]

/-! ### the parts of a number -/
def neg (s : List UInt8) : Bool := ([45] : List UInt8).isPrefixOf s
def bod (s : List UInt8) : List UInt8 := if neg s then s.drop 1 else s
def pt (s : List UInt8) : Bool := decide (fnd [46] (bod s) < (bod s).length)
def wh (s : List UInt8) : List UInt8 := (bod s).take (fnd [46] (bod s))
def fr (s : List UInt8) : List UInt8 := if pt s then (bod s).drop (fnd [46] (bod s) + 1) else []
def vld (s : List UInt8) : Bool :=
  !(decide (((wh s).length : Int) < 1)) && (!(decide (((wh s).length : Int) > 15)) && ((wh s).all dgt && (!(decide (((wh s).length : Int) > 1) && (((wh s).getD 0 0).toNat : Int) == 48) &&
  (!(pt s && (((fr s).length : Int) == 0)) && (!(decide (((fr s).length : Int) > 6)) && ((fr s).all dgt && !(neg s && ((wh s).all zr && (fr s).all zr))))))))
theorem bod_len (s : List UInt8) : (bod s).length ≤ s.length := by unfold bod; split <;> simp
theorem wh_len (s : List UInt8) : (wh s).length ≤ s.length := by have := bod_len s; unfold wh; rw [List.length_take]; omega
theorem fr_len (s : List UInt8) : (fr s).length ≤ s.length := by have := bod_len s; unfold fr; split; rw [List.length_drop]; omega; simp
theorem prog_cut {N : Nat} {s : List UInt8} (hs : s.length ≤ 1000) : (strings_CutPrefix N s [45]).bind (fun r => (strings_Cut N r.1 [46]).bind fun q => some (r.2, q)) = some (neg s, wh s, fr s, pt s) := by
  have hl := bod_len s
  unfold strings_CutPrefix strings_Cut
  have e : Lib.trimPrefix s [45] = bod s := rfl
  have e2 : Lib.hasPrefix s [45] = neg s := rfl
  rw [e, e2]
  simp only [Option.bind_some]
  rw [if_pos (by omega), cut_fnd (by decide)]
  simp only [Option.bind_some]
  unfold wh fr pt
  by_cases h1 : fnd [46] (bod s) < (bod s).length
  · simp [h1]
  · have : fnd [46] (bod s) = (bod s).length := by have := scan_le (fun l => ([46] : List UInt8).isPrefixOf l) (bod s); unfold fnd at h1 ⊢; omega
    simp [this]
theorem prog_cut1 {N : Nat} {s : List UInt8} : strings_CutPrefix N s [45] = some (bod s, neg s) := rfl
theorem prog_cut2 {N : Nat} {s : List UInt8} (hs : s.length ≤ 1000) : strings_Cut N (bod s) [46] = some (wh s, fr s, pt s) := by
  have := prog_cut (N := N) hs
  rw [prog_cut1] at this
  simp only [Option.bind_some] at this
  cases h : strings_Cut N (bod s) [46] with
  | none => rw [h] at this; cases this
  | some q => rw [h] at this; simp only [Option.bind_some, Option.some.injEq, Prod.mk.injEq, true_and] at this; obtain ⟨rfl⟩ := this; rfl

theorem decimal_split_eq {N : Nat} {s : List UInt8} (hs : s.length ≤ 1000) : decimal_split N s = some (Number2.mk (neg s) (wh s) (fr s), vld s) := by
  unfold decimal_split
  rw [prog_cut1]
  simp only [Option.bind_some]
  rw [prog_cut2 hs]
  simp only [Option.bind_some, decimal_digits_eq, decimal_number_zero, decimal_zero_eq]
  unfold vld
  generalize pt s = b5
  generalize neg s = b9
  generalize fr s = f
  generalize hw : wh s = w
  cases w with
  | nil => rfl
  | cons c t =>
    have hi : idx (c :: t) 0 = some c := rfl
    have hg : (c :: t).getD 0 0 = c := rfl
    simp only [hi, hg, Option.bind_some]
    generalize decide ((((c :: t).length : Nat) : Int) < 1) = b1
    generalize decide ((((c :: t).length : Nat) : Int) > 15) = b2
    generalize decide ((((c :: t).length : Nat) : Int) > 1) = b4
    generalize ((c.toNat : Int) == 48) = b3
    generalize ((f.length : Int) == 0) = b6
    generalize decide ((f.length : Int) > 6) = b7
    generalize (c :: t).all dgt = d1
    generalize f.all dgt = d2
    generalize (c :: t).all zr = z1
    generalize f.all zr = z2
    cases b1 <;> cases b2 <;> cases d1 <;> cases b4 <;> cases b3 <;> try rfl
    all_goals cases b5 <;> cases b6 <;> cases b7 <;> cases d2 <;> try rfl
    all_goals cases b9 <;> cases z1 <;> cases z2 <;> rfl

theorem wf_len (s : List UInt8) : (wh s).length + (fr s).length ≤ s.length := by
  have := bod_len s
  have := scan_le (fun l => ([46] : List UInt8).isPrefixOf l) (bod s)
  unfold wh fr fnd
  rw [List.length_take]
  split
  · rw [List.length_drop]; omega
  · simp only [List.length_nil]; omega
theorem ref_split_big {N : Nat} {s : List UInt8} (hs : s.length ≤ LIMS) (hN : s.length + 1000 ≤ N) : calqueref07_Split N s = some (if vld s then Number.mk (neg s) (wh s) (fr s) else Number.mk false [] [], vld s) := by
  unfold calqueref07_Split
  cases s with
  | nil =>
    simp only [List.length_nil, show decide (((0 : Nat) : Int) > 0) = false from rfl, cond_false]
    rw [iter_scan (fun l => ([46] : List UInt8).isPrefixOf l) [] (fun k hk => by simp only [List.length_nil, Nat.le_zero] at hk; subst hk; rfl) N (by simp; omega)]
    have e : ∀ x : Option Bool, (x.bind fun r97 => bif !r97 then some (Number.mk false [] [], false) else some (Number.mk false [] [], false)) = x.bind fun _ => some (Number.mk false [] [], false) := fun x => by cases x <;> simp
    simp only [Option.bind_some, scan]
    rw [show slc ([] : List UInt8) 0 ((0 : Nat) : Int) = some [] from rfl]
    simp only [Option.bind_some, List.length_nil, show decide (((0 : Nat) : Int) < ((0 : Nat) : Int)) = false from rfl, cond_false, Sum.elim_inl]
    rw [show cat [] [] = some [] from rfl]
    simp only [Option.bind_some]
    rw [ref_digits_eq (by simp; omega)]
    rfl
  | cons c t =>
    simp only [List.length_cons] at hs
    simp only [List.length_cons, show decide (((t.length + 1 : Nat) : Int) > 0) = true from decide_eq_true (by omega), cond_true]
    have hi : idx (c :: t) 0 = some c := rfl
    simp only [hi, Option.bind_some]
    have hnb : (bif ((c.toNat : Int) == 45) then ((slc (c :: t) 1 ((t.length + 1 : Nat) : Int)).bind fun s15 => some (s15, Number.mk true [] [])).bind fun o11 => some (o11.1, o11.2) else some (c :: t, Number.mk false [] [])) = some (bod (c :: t), Number.mk (neg (c :: t)) [] []) := by
      have hneg : neg (c :: t) = ((c.toNat : Int) == 45) := by
        unfold neg
        by_cases h : c = 45
        · subst h; rfl
        · have : ((c.toNat : Int) == 45) = false := by
            rw [beq_eq_false_iff_ne]; intro e
            exact h (UInt8.toNat_inj.1 (by show c.toNat = 45; omega))
          rw [this]
          simp [List.isPrefixOf, Ne.symm h]
      unfold bod
      rw [hneg]
      cases ((c.toNat : Int) == 45) with
      | false => rfl
      | true =>
        have := slc_drop (xs := c :: t) (a := 1) (by simp)
        simp only [List.length_cons] at this
        rw [show ((1 : Nat) : Int) = 1 from rfl] at this
        simp only [cond_true, this, Option.bind_some, if_true]
    rw [hnb]
    simp only [Option.bind_some]
    have hbl := bod_len (c :: t)
    have hwl := wh_len (c :: t)
    have hfl := wf_len (c :: t)
    simp only [List.length_cons] at hbl hwl hfl hN
    rw [iter_scan (fun l => ([46] : List UInt8).isPrefixOf l) (bod (c :: t)) (fun k hk => ?_) N (by omega)]
    rotate_left
    · unfold calqueref07_Split_b1
      by_cases hlt : k < (bod (c :: t)).length
      · simp only [show decide ((k : Int) < ((bod (c :: t)).length : Int)) = true from decide_eq_true (by omega), cond_true, idx_some (List.getElem?_eq_getElem hlt), Option.bind_some]
        rw [List.drop_eq_getElem_cons hlt]
        by_cases h : (bod (c :: t))[k] = 46
        · rw [if_neg (by rw [h]; simp [List.isPrefixOf]), h]
          rfl
        · have : (((bod (c :: t))[k].toNat : Int) != 46) = true := by
            rw [bne_iff_ne]; intro e
            exact h (UInt8.toNat_inj.1 (by show (bod (c :: t))[k].toNat = 46; omega))
          rw [if_pos ⟨hlt, by simp [List.isPrefixOf, Ne.symm h]⟩, this]
          rfl
      · simp only [show decide ((k : Int) < ((bod (c :: t)).length : Int)) = false from decide_eq_false (by omega), cond_false]
        rw [if_neg (by omega)]
    have hsl := scan_le (fun l => ([46] : List UInt8).isPrefixOf l) (bod (c :: t))
    simp only [Option.bind_some]
    rw [slc_take hsl]
    simp only [Option.bind_some]
    have hw0 : List.take (scan (fun l => ([46] : List UInt8).isPrefixOf l) (bod (c :: t))) (bod (c :: t)) = wh (c :: t) := rfl
    have hp0 : decide (((scan (fun l => ([46] : List UInt8).isPrefixOf l) (bod (c :: t)) : Nat) : Int) < ((bod (c :: t)).length : Int)) = pt (c :: t) := by
      unfold pt fnd
      simp only [Int.ofNat_lt]
    rw [hw0, hp0]
    have hf0 : pt (c :: t) = true → slc (bod (c :: t)) (((scan (fun l => ([46] : List UInt8).isPrefixOf l) (bod (c :: t)) : Nat) : Int) + 1) ((bod (c :: t)).length : Int) = some (fr (c :: t)) := by
      intro h
      have h' := h
      unfold pt at h'
      have h2 := of_decide_eq_true h'
      unfold fr
      rw [if_pos h]
      have := slc_drop (xs := bod (c :: t)) (a := fnd [46] (bod (c :: t)) + 1) h2
      unfold fnd at this ⊢
      simpa using this
    have hf1 : pt (c :: t) = false → fr (c :: t) = [] := fun h => by unfold fr; rw [if_neg (by rw [h]; simp)]
    unfold vld
    generalize hpt : pt (c :: t) = b5 at *
    generalize neg (c :: t) = b9
    generalize fr (c :: t) = f at *
    have hcat := cat_le (a := wh (c :: t)) (b := f) (by omega)
    have hall : (wh (c :: t) ++ f).length < N := by rw [List.length_append]; omega
    have hdg := ref_digits_eq hall
    have hzz := ref_Zero_eq hall
    rw [List.all_append] at hdg hzz
    generalize hw : wh (c :: t) = w at *
    cases b5 with
    | false =>
      have hf := hf1 rfl
      subst hf
      simp only [cond_false, Option.bind_some, Sum.elim_inl, hcat, hdg, hzz]
      cases w with
      | nil => rfl
      | cons a r =>
        have hi : idx (a :: r) 0 = some a := rfl
        have hg : (a :: r).getD 0 0 = a := rfl
        simp only [hi, hg, Option.bind_some]
        generalize decide ((((a :: r).length : Nat) : Int) < 1) = b1
        generalize decide ((((a :: r).length : Nat) : Int) > 15) = b2
        generalize decide ((((a :: r).length : Nat) : Int) > 1) = b4
        generalize ((a.toNat : Int) == 48) = b3
        generalize (a :: r).all dgt = d1
        generalize (a :: r).all zr = z1
        cases b1 <;> cases b2 <;> cases d1 <;> cases b4 <;> cases b3 <;> cases b9 <;> cases z1 <;> rfl
    | true =>
      simp only [cond_true, hf0 rfl, Option.bind_some]
      cases hb6 : ((f.length : Int) == 0) with
      | true =>
        simp only [cond_true, Option.bind_some, Sum.elim_inr]
        simp
      | false =>
        simp only [cond_false, Option.bind_some, Sum.elim_inl, hcat, hdg, hzz]
        cases w with
        | nil => cases f.all dgt <;> rfl
        | cons a r =>
          have hi : idx (a :: r) 0 = some a := rfl
          have hg : (a :: r).getD 0 0 = a := rfl
          simp only [hi, hg, Option.bind_some]
          generalize decide ((((a :: r).length : Nat) : Int) < 1) = b1
          generalize decide ((((a :: r).length : Nat) : Int) > 15) = b2
          generalize decide ((((a :: r).length : Nat) : Int) > 1) = b4
          generalize ((a.toNat : Int) == 48) = b3
          generalize decide ((f.length : Int) > 6) = b7
          generalize (a :: r).all dgt = d1
          generalize f.all dgt = d2
          generalize (a :: r).all zr = z1
          generalize f.all zr = z2
          cases b1 <;> cases b2 <;> cases d1 <;> cases d2 <;> cases b4 <;> cases b3 <;> try rfl
          all_goals cases b7 <;> cases b9 <;> cases z1 <;> cases z2 <;> rfl

theorem ref_split_eq {N : Nat} {s : List UInt8} (hs : s.length ≤ 1000) (hN : 3000 ≤ N) : calqueref07_Split N s = some (if vld s then Number.mk (neg s) (wh s) (fr s) else Number.mk false [] [], vld s) := ref_split_big (by unfold LIMS; omega) (by omega)
theorem ref_Valid_big {N : Nat} {s : List UInt8} (hs : s.length ≤ LIMS) (hN : s.length + 1000 ≤ N) : calqueref07_Valid N s = some (vld s) := by
  unfold calqueref07_Valid; rw [ref_split_big hs hN]; rfl
theorem decimal_Valid_eq {N : Nat} {s : List UInt8} (hs : s.length ≤ 1000) : decimal_Valid N s = some (vld s) := by
  unfold decimal_Valid; rw [decimal_split_eq hs]; rfl
theorem ref_Valid_eq {N : Nat} {s : List UInt8} (hs : s.length ≤ 1000) (hN : 3000 ≤ N) : calqueref07_Valid N s = some (vld s) := by
  unfold calqueref07_Valid; rw [ref_split_eq hs hN]; rfl
end Go.Proofs.YtidfofhmnlhfjaaGreatDoor

namespace Go.Proofs.YtidfofhmnlhfjaaGreatDoor
open Go.X

/-! ### the number that digits spell -/
def vl (acc : Nat) (s : List UInt8) : Nat := s.foldl (fun n c => 10 * n + (c.toNat - 48)) acc
theorem dgt_iff {c : UInt8} : dgt c = true ↔ 48 ≤ c.toNat ∧ c.toNat ≤ 57 := by unfold dgt; simp
theorem decFrom_vl : ∀ (s : List UInt8) (acc : Nat), s.all dgt = true → Lib.decFrom acc s = some (vl acc s)
  | [], _, _ => rfl
  | c :: s, acc, h => by
    rw [List.all_cons, Bool.and_eq_true] at h
    have hc := dgt_iff.1 h.1
    have : Lib.digitVal c = some (c.toNat - 48) := by unfold Lib.digitVal; rw [if_pos hc]
    rw [Lib.decFrom, this]
    simp only
    rw [decFrom_vl s _ h.2, Nat.mul_comm acc 10]
    rfl
theorem vl_lt : ∀ (s : List UInt8) (acc k : Nat), s.all dgt = true → acc < 10 ^ k → vl acc s < 10 ^ (k + s.length)
  | [], acc, k, _, h => by simpa [vl] using h
  | c :: s, acc, k, h, ha => by
    rw [List.all_cons, Bool.and_eq_true] at h
    have hc := dgt_iff.1 h.1
    have := vl_lt s (10 * acc + (c.toNat - 48)) (k + 1) h.2 (by rw [Nat.pow_succ]; omega)
    rw [show k + (c :: s).length = k + 1 + s.length by simp only [List.length_cons]; omega]
    exact this
theorem pow_le18 {k : Nat} (h : k ≤ 18) : 10 ^ k ≤ 1000000000000000000 := by
  have : 10 ^ k ≤ 10 ^ 18 := Nat.pow_le_pow_right (by omega) h
  simpa using this
theorem decimal_value_eq {N : Nat} {s : List UInt8} (hl : s.length ≤ 15) (hd : s.all dgt = true) : decimal_value N s = some (vl 0 s : Int) := by
  unfold decimal_value
  rw [cat_some (by simp only [List.length_cons, List.length_nil]; omega)]
  simp only [Option.bind_some]
  unfold strconv_Atoi
  rw [if_pos (by simp only [List.length_append, List.length_cons, List.length_nil]; omega)]
  have hlt := vl_lt s 0 0 hd (by simp)
  have hp := pow_le18 (k := 0 + s.length) (by omega)
  have e : Lib.atoi ([48] ++ s) = some (vl 0 s : Int) := by
    have h1 : Lib.decNat (48 :: s) = some (vl 0 s) := by
      unfold Lib.decNat
      rw [if_neg (by simp), decFrom_vl _ _ (by rw [List.all_cons, hd]; rfl)]
      rfl
    show Lib.atoi (48 :: s) = _
    simp only [Lib.atoi, h1]
    rfl
  rw [e]
  simp only
  rw [if_pos (inR_i64.2 ⟨by omega, by omega⟩)]
  rfl
theorem ref_Value_eq {N : Nat} {s : List UInt8} (hl : s.length ≤ 15) (hd : s.all dgt = true) (hN : s.length < N) : calqueref07_Value N s = some (vl 0 s : Int) := by
  unfold calqueref07_Value
  have hrun : ∀ (xs : List UInt8) (n : Nat), run (σ := Nat) (β := Int) (fun n (c : UInt8) => .inl (10 * n + (c.toNat - 48))) (fun n => (n : Int)) n xs = (vl n xs : Int) := by
    intro xs
    induction xs with
    | nil => intro n; rfl
    | cons c xs ih => intro n; unfold run; simp only; rw [ih]; rfl
  have := iter_list (body := fun s_1 : Int × Int => calqueref07_Value_b1 N s s_1.1 s_1.2) (σ := Nat) (fun n k => ((n : Int), k)) s (fun n (c : UInt8) => .inl (10 * n + (c.toNat - 48))) (fun n => (n : Int)) (fun k n => n < 10 ^ k) (fun n k c hk hI => ?_) (fun n _ => ?_) N 0 hN (by simp)
  · rw [show ((0 : Int), (0 : Int)) = (((0 : Nat) : Int), 0) from rfl, this, hrun]
    rfl
  · have hlt := getlt hk
    have hc := dgt_iff.1 (List.all_eq_true.1 hd c (List.mem_of_getElem? hk))
    have hp := pow_le18 (k := k + 1) (by omega)
    rw [Nat.pow_succ] at hp
    constructor
    · show calqueref07_Value_b1 N s n k = _
      unfold calqueref07_Value_b1
      simp only [dltx hk, cond_true, idx_some hk, Option.bind_some]
      have e1 : IntKind.wrap .u8 ((c.toNat : Int) - 48) = (c.toNat : Int) - 48 := wrap_of (inR_u8.2 ⟨by omega, by omega⟩)
      have e2 : IntKind.wrap .i64 ((10 : Int) * (n : Int)) = 10 * (n : Int) := wrap_of (inR_i64.2 ⟨by omega, by omega⟩)
      rw [e1, e2, wrap_of (inR_i64.2 ⟨by omega, by omega⟩)]
      congr 3
      simp only [Int.natCast_add, Int.natCast_mul]
      congr 1
      omega
    · rintro n' ⟨⟩
      rw [Nat.pow_succ]; omega
  · show calqueref07_Value_b1 N s n s.length = _
    unfold calqueref07_Value_b1
    simp only [dnlt, cond_false]

/-! ### zeros at the end -/
def rt (s : List UInt8) : List UInt8 := Lib.trimRightS s [48]
theorem rt_snoc (l : List UInt8) (c : UInt8) : rt (l ++ [c]) = if zr c then rt l else l ++ [c] := by
  unfold rt Lib.trimRightS zr
  rw [List.reverse_append]
  simp only [List.reverse_cons, List.reverse_nil, List.nil_append, List.cons_append, List.dropWhile_cons]
  by_cases h : c = 48
  · subst h; simp
  · simp [h]
theorem snoc_ind {p : List UInt8 → Prop} (h0 : p []) (h1 : ∀ l c, p l → p (l ++ [c])) (l : List UInt8) : p l := by
  rw [← List.reverse_reverse l]
  induction l.reverse with
  | nil => exact h0
  | cons c t ih => rw [List.reverse_cons]; exact h1 _ _ ih
theorem rt_nil (s : List UInt8) : rt s = [] ↔ s.all zr = true := by
  induction s using snoc_ind with
  | h0 => exact ⟨fun _ => rfl, fun _ => rfl⟩
  | h1 l c ih =>
    rw [rt_snoc, List.all_append]
    cases h : zr c with
    | true => simp [ih, h]
    | false => simp [h]
theorem rt_len (s : List UInt8) : (rt s).length ≤ s.length := by
  induction s using snoc_ind with
  | h0 => exact Nat.le_refl _
  | h1 l c ih => rw [rt_snoc]; split; rw [List.length_append]; omega; exact Nat.le_refl _
theorem rt_all {p : UInt8 → Bool} (s : List UInt8) (h : s.all p = true) : (rt s).all p = true := by
  induction s using snoc_ind with
  | h0 => rfl
  | h1 l c ih =>
    rw [rt_snoc]
    split
    · rw [List.all_append, Bool.and_eq_true] at h; exact ih h.1
    · exact h
theorem ref_Trim_eq : ∀ {s : List UInt8} {N : Nat}, s.length < N → s.length < 1000000 → calqueref07_Trim N s = some (rt s) := by
  have key : ∀ (s : List UInt8) (N M : Nat), s.length < N → s.length < 1000000 → iter (fun s => calqueref07_Trim_b1 M s) N s = some (rt s) := by
    intro s
    induction s using snoc_ind with
    | h0 =>
      intro N M hN _
      obtain ⟨N, rfl⟩ : ∃ K, N = K + 1 := ⟨N - 1, by omega⟩
      rfl
    | h1 l c ih =>
      intro N M hN hl
      obtain ⟨N, rfl⟩ : ∃ K, N = K + 1 := ⟨N - 1, by omega⟩
      rw [List.length_append, List.length_singleton] at hN hl
      have e1 : decide (((l ++ [c]).length : Int) > 0) = true := decide_eq_true (by rw [List.length_append, List.length_singleton]; omega)
      have e2 : (((l ++ [c]).length : Int) - 1) = (l.length : Int) := by rw [List.length_append, List.length_singleton]; omega
      have e3 : idx (l ++ [c]) (l.length : Int) = some c := idx_some (by simp)
      have e4 : slc (l ++ [c]) 0 (l.length : Int) = some l := by rw [slc_take (by simp)]; simp
      have e5 : ((c.toNat : Int) == 48) = zr c := by
        unfold zr
        by_cases h : c = 48
        · subst h; rfl
        · rw [show (c == 48) = false from beq_eq_false_iff_ne.2 h, beq_eq_false_iff_ne]
          intro e; exact h (UInt8.toNat_inj.1 (by show c.toNat = 48; omega))
      rw [rt_snoc]
      cases hz : zr c with
      | true =>
        have hb : calqueref07_Trim_b1 M (l ++ [c]) = some (.inl l) := by
          unfold calqueref07_Trim_b1
          simp only [e1, cond_true, e2, e3, Option.bind_some, e5, hz, e4]
        rw [iter_inl hb, ih N M (by omega) (by omega)]
        rfl
      | false =>
        have hb : calqueref07_Trim_b1 M (l ++ [c]) = some (.inr (l ++ [c])) := by
          unfold calqueref07_Trim_b1
          simp only [e1, cond_true, e2, e3, Option.bind_some, e5, hz, cond_false]
        rw [iter_inr hb]
        rfl
  intro s N hN hl
  unfold calqueref07_Trim
  rw [key s N N hN hl]
  rfl

/-! ### the operands -/
def opd (s : List UInt8) (o : Int) : Int × Int :=
  if vld s then
    if o = 1 then (if (fr s).all zr then ((vl 0 (wh s) : Int), 0) else (0, 8))
    else if o = 2 then ((vl 0 (wh s) : Int), 0)
    else if o = 3 then (((fr s).length : Int), 0)
    else if o = 4 then (((rt (fr s)).length : Int), 0)
    else if o = 5 then ((vl 0 (fr s) : Int), 0)
    else if o = 6 then ((vl 0 (rt (fr s)) : Int), 0)
    else (0, 1)
  else (0, 1)
theorem vld_facts {s : List UInt8} (h : vld s = true) : (wh s).length ≤ 15 ∧ (wh s).all dgt = true ∧ (fr s).length ≤ 6 ∧ (fr s).all dgt = true := by
  unfold vld at h
  simp only [Bool.and_eq_true, Bool.not_eq_true', decide_eq_false_iff_not] at h
  obtain ⟨_, h2, h3, _, _, h4, h5, _⟩ := h
  exact ⟨by omega, h3, by omega, h5⟩
theorem beq_op (o k : Int) : (o == k) = decide (o = k) := by by_cases h : o = k <;> simp [h]
theorem prog_Operand_eq {N : Nat} {s : List UInt8} (hs : s.length ≤ 1000) (o : Int) : decimal_Operand N s o = some (opd s o) := by
  unfold decimal_Operand opd
  rw [decimal_split_eq hs]
  simp only [Option.bind_some]
  cases hv : vld s with
  | false => rfl
  | true =>
    obtain ⟨h1, h2, h3, h4⟩ := vld_facts hv
    have et : strings_TrimRight N (fr s) [48] = some (rt (fr s)) := by unfold strings_TrimRight; rw [if_pos ⟨by decide, by decide⟩]; rfl
    have er : (rt (fr s) != []) = !((fr s).all zr) := by
      have := rt_nil (fr s)
      cases ha : (fr s).all zr with
      | true => rw [this.2 ha]; rfl
      | false =>
        have : rt (fr s) ≠ [] := fun e => by rw [this.1 e] at ha; cases ha
        simpa using this
    simp only [Bool.not_true, cond_false, et, Option.bind_some, er, decimal_value_eq h1 h2, decimal_value_eq (by omega : (fr s).length ≤ 15) h4, decimal_value_eq (by have := rt_len (fr s); omega : (rt (fr s)).length ≤ 15) (rt_all _ h4), beq_op, if_true, Bool.cond_decide]
    cases (fr s).all zr <;> simp only [Bool.not_true, Bool.not_false, cond_true, cond_false, if_true, Bool.false_eq_true, if_false] <;> repeat' split
    all_goals first | rfl | contradiction
theorem ref_Operand_eq {N : Nat} {s : List UInt8} (hs : s.length ≤ 1000) (hN : 3000 ≤ N) (o : Int) : calqueref07_Operand N s o = some (opd s o) := by
  unfold calqueref07_Operand opd
  rw [ref_split_eq hs hN]
  simp only [Option.bind_some]
  cases hv : vld s with
  | false => rfl
  | true =>
    obtain ⟨h1, h2, h3, h4⟩ := vld_facts hv
    have hr := rt_len (fr s)
    simp only [Bool.not_true, cond_false, if_true, Option.bind_some, ref_Zero_eq (show (fr s).length < N by omega), ref_Value_eq (N := N) h1 h2 (by omega), ref_Value_eq (N := N) (by omega : (fr s).length ≤ 15) h4 (by omega), ref_Trim_eq (show (fr s).length < N by omega) (by omega),
      ref_Value_eq (N := N) (by omega : (rt (fr s)).length ≤ 15) (rt_all _ h4) (by omega), beq_op, Bool.cond_decide]
    cases (fr s).all zr <;> simp only [Bool.not_true, Bool.not_false, cond_true, cond_false, if_true, Bool.false_eq_true, if_false] <;> repeat' split
    all_goals first | rfl | contradiction
end Go.Proofs.YtidfofhmnlhfjaaGreatDoor

namespace Go.Proofs.YtidfofhmnlhfjaaGreatDoor
open Go.X

/-! ### sizes -/
theorem mem_sum {α : Type} {f : α → Nat} : ∀ {l : List α} {x : α}, x ∈ l → f x ≤ (l.map f).sum
  | [], _, h => by cases h
  | y :: l, x, h => by
    rw [List.map_cons, List.sum_cons]
    rcases List.mem_cons.1 h with rfl | h
    · omega
    · have := mem_sum (f := f) h; omega
abbrev Cnd := List (List Relation)
def sz (c : Cnd) : Nat := c.length + (c.map fun l => l.length + (l.map fun r => r.Spans.length).sum).sum
structure Sz (N : Nat) (c : Cnd) : Prop where
  n : 3000 ≤ N
  len : c.length < N
  lens : ∀ l ∈ c, l.length < N
  spans : ∀ l ∈ c, ∀ r ∈ l, r.Spans.length < N
theorem Sz.of {N : Nat} {c : Cnd} (h : sz c + 3000 ≤ N) : Sz N c := by
  unfold sz at h
  refine ⟨by omega, by omega, fun l hl => ?_, fun l hl r hr => ?_⟩
  · have := mem_sum (f := fun l : List Relation => l.length + (l.map fun r => r.Spans.length).sum) hl
    try simp only at this
    omega
  · have := mem_sum (f := fun l : List Relation => l.length + (l.map fun r => r.Spans.length).sum) hl
    have h2 := mem_sum (f := fun r : Relation => r.Spans.length) hr
    try simp only at this h2
    omega

/-! ### relations -/
def per (o m : Int) : Bool := if o = 1 ∨ o = 2 then ([2, 3, 4, 5, 6, 10, 20, 25, 50, 100] : List Int).contains m else if o = 5 ∨ o = 6 then decide (m = 10 ∨ m = 100) else false
def gr (o : Int) : Int := if o = 3 ∨ o = 4 then 6 else 100
def spn (o : Int) (s : Span) : Bool := decide (0 ≤ s.From) && (decide (s.From ≤ s.To) && decide (s.To ≤ gr o))
def prp (r : Relation) : Bool := decide (1 ≤ r.Operand) && (decide (r.Operand ≤ 6) && ((decide (r.Mod = 0) || per r.Operand r.Mod) && (decide (1 ≤ r.Spans.length) && (decide (r.Spans.length ≤ 4) && r.Spans.all (spn r.Operand)))))

theorem greatest_eq (N : Nat) (o : Int) : condition_greatest N o = some (gr o) := by
  unfold condition_greatest gr
  simp only [beq_op, Bool.cond_decide]
  repeat' split
  all_goals first | rfl | omega
theorem Bound_eq (N : Nat) (o : Int) : calqueref08_Bound N o = some (gr o) := greatest_eq N o
theorem slices_find {N : Nat} (l : List Int) (m : Int) (hN : l.length < N) : slices_Contains_int_int N l m = some (l.contains m) := by
  unfold slices_Contains_int_int slices_Index_int_int
  rw [iter_find l (fun x => m == x) (fun k x hk => ?_) ?_ N hN, find_any]
  · simp only [Option.bind_some, find_ge]
    rw [List.contains_eq_any_beq]
  · unfold slices_Index_int_int_b1
    simp only [dnlt, cond_false]
  · unfold slices_Index_int_int_b1
    simp only [dltx hk, cond_true, idx_some hk, Option.bind_some]
    cases (m == x) <;> rfl
theorem permitted_eq {N : Nat} (hN : 3000 ≤ N) (o m : Int) : condition_permitted N o m = some (per o m) := by
  unfold condition_permitted per
  rw [slices_find _ _ (by simp; omega)]
  simp only [beq_op, Bool.cond_decide, Option.bind_some]
  by_cases h1 : o = 1
  · simp [h1]
  · by_cases h2 : o = 2
    · simp [h2]
    · by_cases h5 : o = 5
      · subst h5; by_cases h : m = 10 <;> simp [h]
      · by_cases h6 : o = 6
        · subst h6; by_cases h : m = 10 <;> simp [h]
        · simp [h1, h2, h5, h6]
theorem has_eq {N : Nat} (l : List Int) (m : Int) (hN : l.length < N) : calqueref08_has N l m = some (l.contains m) := by
  unfold calqueref08_has
  rw [iter_anyL (fun x => x == m) l (fun k x hk => ?_) ?_ N hN]
  · have e : l.any (fun x => x == m) = l.contains m := by
      rw [List.contains_eq_any_beq]
      congr 1
      funext x
      rw [Bool.eq_iff_iff, beq_iff_eq, beq_iff_eq]; exact eq_comm
    rw [← e]
    cases l.any (fun x => x == m) <;> rfl
  · unfold calqueref08_has_b1
    simp only [dnlt, cond_false]
  · unfold calqueref08_has_b1
    simp only [dltx hk, cond_true, idx_some hk, Option.bind_some]
    cases (x == m) <;> rfl
theorem Mods_has {N : Nat} (hN : 3000 ≤ N) (o m : Int) : ((calqueref08_Mods N o).bind fun l => calqueref08_has N l m) = some (per o m) := by
  unfold calqueref08_Mods per
  simp only [beq_op, Bool.cond_decide]
  by_cases h1 : o = 1
  · simp only [h1, if_true, Option.bind_some, decide_true, cond_true, true_or]; rw [has_eq _ _ (by simp; omega)]
  · by_cases h2 : o = 2
    · subst h2
      simp only [show ¬ (2 : Int) = 1 by decide, if_false, Option.bind_some, decide_true, cond_true, false_or, if_true]; rw [has_eq _ _ (by simp; omega)]
    · by_cases h5 : o = 5
      · subst h5
        simp only [show ¬ (5 : Int) = 1 by decide, show ¬ (5 : Int) = 2 by decide, or_self, if_false, decide_false, cond_false, Option.bind_some, decide_true, cond_true, true_or, if_true]; rw [has_eq _ _ (by simp; omega)]
        by_cases h : m = 10 <;> simp [h]
      · by_cases h6 : o = 6
        · subst h6
          simp only [show ¬ (6 : Int) = 1 by decide, show ¬ (6 : Int) = 2 by decide, show ¬ (6 : Int) = 5 by decide, or_self, if_false, decide_false, cond_false, Option.bind_some, decide_true, cond_true, false_or, if_true]; rw [has_eq _ _ (by simp; omega)]
          by_cases h : m = 10 <;> simp [h]
        · simp only [h1, h2, h5, h6, or_self, if_false, decide_false, cond_false, Option.bind_some]
          rw [has_eq _ _ (by simp; omega)]
          simp

theorem span_loop {body : Int → Option (Int ⊕ (Unit ⊕ Bool))} (o : Int) (l : List Span) (h : ∀ (k : Nat) x, l[k]? = some x → body k = (bif decide (x.From < 0) then some (.inr (.inr false)) else bif decide (x.From > x.To) then some (.inr (.inr false)) else (some (gr o)).bind fun r => bif decide (x.To > r) then some (.inr (.inr false)) else some (.inl ((k : Int) + 1)))) (h2 : body l.length = some (.inr (.inl ()))) {N : Nat} (hN : l.length < N) :
    ((iter body N 0).bind fun o33 => Sum.elim (fun _ => some true) (fun o => some o) o33) = some (l.all (spn o)) := by
  rw [iter_allL (spn o) l (fun k x hk => ?_) h2 N hN]
  · cases l.all (spn o) <;> rfl
  · rw [h k x hk]
    unfold spn
    simp only [Option.bind_some]
    by_cases a : x.From < 0
    · simp [a, show ¬ 0 ≤ x.From by omega]
    · by_cases b : x.From > x.To
      · simp [a, b, show ¬ x.From ≤ x.To by omega]
      · by_cases c : x.To > gr o
        · simp [a, b, c, show ¬ x.To ≤ gr o by omega]
        · simp [a, b, c, show 0 ≤ x.From by omega, show x.From ≤ x.To by omega, show x.To ≤ gr o by omega]

theorem proper_eq {N : Nat} (hN : 3000 ≤ N) {r : Relation} (hs : r.Spans.length < N) : condition_proper N r = some (prp r) := by
  have s1 : ((iter (fun s => condition_proper_b1 N r s) N 0).bind fun o33 => Sum.elim (fun _ => some true) (fun o => some o) o33) = some (r.Spans.all (spn r.Operand)) := by
    refine span_loop r.Operand r.Spans (fun k x hk => ?_) ?_ hs
    · unfold condition_proper_b1
      simp only [dltx hk, cond_true, idx_some hk, Option.bind_some, greatest_eq]
    · unfold condition_proper_b1
      simp only [dnlt, cond_false]
  have s2 : ((iter (fun s => condition_proper_b2 N r s) N 0).bind fun o33 => Sum.elim (fun _ => some true) (fun o => some o) o33) = some (r.Spans.all (spn r.Operand)) := s1
  unfold condition_proper prp
  rw [permitted_eq hN]
  simp only [Option.bind_some, s1, s2]
  by_cases h1 : r.Operand < 1
  · simp [h1, show ¬ 1 ≤ r.Operand by omega]
  · by_cases h2 : r.Operand > 6
    · simp [h1, h2, show 1 ≤ r.Operand by omega, show ¬ r.Operand ≤ 6 by omega]
    · simp only [decide_eq_false h1, decide_eq_false h2, cond_false, decide_eq_true (show 1 ≤ r.Operand by omega), decide_eq_true (show r.Operand ≤ 6 by omega), Bool.true_and]
      by_cases h4 : (r.Spans.length : Int) < 1
      · by_cases hm : r.Mod = 0
        · simp [hm, h4, show ¬ 1 ≤ r.Spans.length by omega]
        · cases per r.Operand r.Mod <;> simp [show (r.Mod != 0) = true by simp [hm], hm, h4, show ¬ 1 ≤ r.Spans.length by omega]
      · by_cases h5 : (r.Spans.length : Int) > 4
        · by_cases hm : r.Mod = 0
          · simp [hm, h4, h5, show ¬ r.Spans.length ≤ 4 by omega]
          · cases per r.Operand r.Mod <;> simp [show (r.Mod != 0) = true by simp [hm], hm, h4, h5, show ¬ r.Spans.length ≤ 4 by omega]
        · by_cases hm : r.Mod = 0
          · simp [hm, h4, h5, show 1 ≤ r.Spans.length by omega, show r.Spans.length ≤ 4 by omega]
          · cases per r.Operand r.Mod <;> simp [show (r.Mod != 0) = true by simp [hm], hm, h4, h5, show 1 ≤ r.Spans.length by omega, show r.Spans.length ≤ 4 by omega]
theorem ref_proper_eq {N : Nat} (hN : 3000 ≤ N) {r : Relation} (hs : r.Spans.length < N) : calqueref08_proper N r = some (prp r) := by
  have s1 : ((iter (fun s => calqueref08_proper_b1 N r s) N 0).bind fun o33 => Sum.elim (fun _ => some true) (fun o => some o) o33) = some (r.Spans.all (spn r.Operand)) := by
    refine span_loop r.Operand r.Spans (fun k x hk => ?_) ?_ hs
    · unfold calqueref08_proper_b1
      simp only [dltx hk, cond_true, idx_some hk, Option.bind_some, Bound_eq]
    · unfold calqueref08_proper_b1
      simp only [dnlt, cond_false]
  have hm0 := Mods_has hN r.Operand r.Mod
  have hm1 : ∀ (f : Bool → Option Bool), ((calqueref08_Mods N r.Operand).bind fun l => (calqueref08_has N l r.Mod).bind f) = f (per r.Operand r.Mod) := fun f => by
    rw [← Option.bind_assoc, hm0]; rfl
  unfold calqueref08_proper prp
  rw [hm1]
  simp only [s1]
  by_cases h1 : r.Operand < 1
  · simp [h1, show ¬ 1 ≤ r.Operand by omega]
  · by_cases h2 : r.Operand > 6
    · simp [h1, h2, show 1 ≤ r.Operand by omega, show ¬ r.Operand ≤ 6 by omega]
    · simp only [decide_eq_false h1, decide_eq_false h2, cond_false, decide_eq_true (show 1 ≤ r.Operand by omega), decide_eq_true (show r.Operand ≤ 6 by omega), Bool.true_and]
      by_cases h4 : (r.Spans.length : Int) < 1
      · by_cases hm : r.Mod = 0
        · simp [hm, h4, show ¬ 1 ≤ r.Spans.length by omega]
        · cases per r.Operand r.Mod <;> simp [show (r.Mod != 0) = true by simp [hm], hm, h4, show ¬ 1 ≤ r.Spans.length by omega]
      · by_cases h5 : (r.Spans.length : Int) > 4
        · by_cases hm : r.Mod = 0
          · simp [hm, h4, h5, show ¬ r.Spans.length ≤ 4 by omega]
          · cases per r.Operand r.Mod <;> simp [show (r.Mod != 0) = true by simp [hm], hm, h4, h5, show ¬ r.Spans.length ≤ 4 by omega]
        · by_cases hm : r.Mod = 0
          · simp [hm, h4, h5, show 1 ≤ r.Spans.length by omega, show r.Spans.length ≤ 4 by omega]
          · cases per r.Operand r.Mod <;> simp [show (r.Mod != 0) = true by simp [hm], hm, h4, h5, show 1 ≤ r.Spans.length by omega, show r.Spans.length ≤ 4 by omega]

/-! ### conditions -/
def tot (c : Cnd) : Int := (c.map fun l => (l.length : Int)).sum
def fine (l : List Relation) : Bool := !(l.length == 0) && l.all prp
def vd (c : Cnd) : Bool := decide (0 < c.length) && (c.all fine && decide (IntKind.wrap .i64 (tot c) ≤ 6))
theorem wrap_wrap (a b : Int) : IntKind.wrap .i64 (IntKind.wrap .i64 a + b) = IntKind.wrap .i64 (a + b) := by
  simp only [IntKind.wrap, IntKind.bits, IntKind.signed]
  simp
  repeat' split
  all_goals omega
def fV (n : Int) (l : List Relation) : Int ⊕ (Int ⊕ Bool) := if fine l then .inl (IntKind.wrap .i64 (n + l.length)) else .inr (.inr false)
theorem run_fV : ∀ (c : Cnd) (n : Int), run fV (fun n => .inl n) (IntKind.wrap .i64 n) c = if c.all fine then .inl (IntKind.wrap .i64 (n + tot c)) else .inr false
  | [], n => by simp [run, tot]
  | l :: c, n => by
    rw [run]
    cases h : fine l with
    | false => rw [show fV (IntKind.wrap .i64 n) l = .inr (.inr false) by unfold fV; rw [h]; rfl]; simp [h]
    | true =>
      rw [show fV (IntKind.wrap .i64 n) l = .inl (IntKind.wrap .i64 (n + l.length)) by unfold fV; rw [h, wrap_wrap]; rfl]
      simp only [List.all_cons, h, Bool.true_and]
      have ih := run_fV c (n + l.length)
      rw [ih]
      simp only [tot, List.map_cons, List.sum_cons, Int.add_assoc]
theorem vd_of (c : Cnd) : ((some (run fV (fun n => Sum.inl n) 0 c)).bind fun o3 => Sum.elim (fun o3 => bif decide ((c.length : Int) > 0) then some (decide (o3 ≤ (6 : Int))) else some false) (fun o3 => some o3) o3) = some (vd c) := by
  have := run_fV c 0
  rw [show IntKind.wrap .i64 (0 : Int) = 0 by decide] at this
  rw [this]
  unfold vd
  cases c.all fine with
  | false => simp
  | true =>
    simp only [if_true, Option.bind_some, Sum.elim_inl, Int.zero_add, Bool.true_and]
    by_cases h : 0 < c.length
    · simp [h]
    · have h' : ¬ (c.length : Int) > 0 := by omega
      rw [decide_eq_false h', decide_eq_false h]; rfl
theorem Valid_eq {N : Nat} {c : Cnd} (S : Sz N c) : condition_Valid N c = some (vd c) := by
  unfold condition_Valid
  rw [show ((0 : Int), (0 : Int)) = (fun n k => (n, k)) (0 : Int) (0 : Int) from rfl, iter_list' (body := fun s => condition_Valid_b1 N c s.1 s.2) (fun (n : Int) k => (n, k)) c fV (fun n => .inl n) (fun n k l hk => ?_) (fun n => ?_) N 0 S.len]
  · exact vd_of c
  · have hl := List.mem_of_getElem? hk
    show condition_Valid_b1 N c n k = _
    unfold condition_Valid_b1
    simp only [dltx hk, cond_true, idx_some hk, Option.bind_some]
    have hc : slices_ContainsFunc_api_Relation_api_Relation__81 N l = some (l.any fun r => !prp r) := by
      unfold slices_ContainsFunc_api_Relation_api_Relation__81 slices_IndexFunc_api_Relation_api_Relation__81
      rw [iter_find l (fun r => !prp r) (fun k r hk => ?_) ?_ N (S.lens l hl), find_any]
      · simp only [Option.bind_some, find_ge]
      · unfold slices_IndexFunc_api_Relation_api_Relation__81_b1
        simp only [dnlt, cond_false]
      · unfold slices_IndexFunc_api_Relation_api_Relation__81_b1 condition_Valid_1
        simp only [dltx hk, cond_true, idx_some hk, Option.bind_some, proper_eq S.n (S.spans l hl r (List.mem_of_getElem? hk))]
        cases prp r <;> rfl
    rw [hc]
    unfold fV fine
    have e : (l.any fun r => !prp r) = !(l.all prp) := by
      rw [List.not_all_eq_any_not]
    rw [e]
    simp only [Option.bind_some]
    cases l with
    | nil => rfl
    | cons r l =>
      have : (((r :: l).length : Int) == 0) = false := by simp only [List.length_cons, beq_eq_false_iff_ne]; omega
      rw [this]
      cases (r :: l).all prp <;> rfl
  · show condition_Valid_b1 N c n c.length = _
    unfold condition_Valid_b1
    simp only [dnlt, cond_false]
theorem ref_Valid_c {N : Nat} {c : Cnd} (S : Sz N c) : calqueref08_Valid N c = some (vd c) := by
  unfold calqueref08_Valid
  rw [show ((0 : Int), (0 : Int)) = (fun n k => (n, k)) (0 : Int) (0 : Int) from rfl, iter_list (body := fun s => calqueref08_Valid_b1 N c s.1 s.2) (fun (n : Int) k => (n, k)) c fV (fun n => .inl n) (fun _ n => InR .i64 n) (fun n k l hk hI => ?_) (fun n _ => ?_) N 0 S.len (show InR .i64 0 by decide)]
  · exact vd_of c
  · have hl := List.mem_of_getElem? hk
    constructor
    · show calqueref08_Valid_b1 N c n k = _
      unfold calqueref08_Valid_b1
      simp only [dltx hk, cond_true, idx_some hk, Option.bind_some]
      have hrun : ∀ (xs : List Relation) (n : Int), run (σ := Int) (β := Int ⊕ Bool) (fun n r => if prp r then .inl (IntKind.wrap .i64 (n + 1)) else .inr (.inr false)) (fun n => .inl n) (IntKind.wrap .i64 n) xs = if xs.all prp then .inl (IntKind.wrap .i64 (n + xs.length)) else .inr false := by
        intro xs
        induction xs with
        | nil => intro n; simp [run]
        | cons r xs ih =>
          intro n
          unfold run
          cases h : prp r with
          | false => simp [h]
          | true =>
            simp only [if_true, wrap_wrap, List.all_cons, h, Bool.true_and]
            rw [ih (n + 1)]
            simp only [List.length_cons]
            congr 3
            omega
      have hin : iter (fun s => calqueref08_Valid_b2 N c k s.1 s.2) N (n, 0) = some (if l.all prp then .inl (IntKind.wrap .i64 (n + l.length)) else .inr false) := by
        have h := iter_list' (body := fun s : Int × Int => calqueref08_Valid_b2 N c k s.1 s.2) (fun (n : Int) k => (n, k)) l (fun n r => if prp r then .inl (IntKind.wrap .i64 (n + 1)) else .inr (.inr false)) (fun n => .inl n) (fun n j r hj => ?_) (fun n => ?_) N n (S.lens l hl)
        · rw [show ((n, (0 : Int)) : Int × Int) = (fun n k => (n, k)) n (0 : Int) from rfl, h]
          have := hrun l n
          rw [wrap_of hI] at this
          rw [this]
        · show calqueref08_Valid_b2 N c k n j = _
          unfold calqueref08_Valid_b2
          simp only [idx_some hk, Option.bind_some, dltx hj, cond_true, idx_some hj, ref_proper_eq S.n (S.spans l hl r (List.mem_of_getElem? hj))]
          cases prp r <;> rfl
        · show calqueref08_Valid_b2 N c k n l.length = _
          unfold calqueref08_Valid_b2
          simp only [idx_some hk, Option.bind_some, dnlt, cond_false]
      rw [hin]
      unfold fV fine
      cases l with
      | nil => rfl
      | cons r l =>
        have : (((r :: l).length : Int) == 0) = false := by simp only [List.length_cons, beq_eq_false_iff_ne]; omega
        rw [this]
        cases (r :: l).all prp <;> rfl
    · intro n' h
      unfold fV at h
      split at h
      · cases h; exact InR.wrap _ _
      · cases h
  · show calqueref08_Valid_b1 N c n c.length = _
    unfold calqueref08_Valid_b1
    simp only [dnlt, cond_false]

/-! ### what holds -/
def ins (l : List Span) (n : Int) : Bool := l.any fun s => decide (s.From ≤ n) && decide (n ≤ s.To)
def red (r : Relation) (n : Int) : Int := if r.Mod = 0 then n else n.tmod r.Mod
def hold (s : List UInt8) (r : Relation) : Bool := if (opd s r.Operand).2 = 0 then (ins r.Spans (red r (opd s r.Operand).1)) != r.Not else r.Not
def hd (s : List UInt8) (c : Cnd) : Bool := c.any fun l => l.all (hold s)
theorem in_eq {N : Nat} {l : List Span} {n : Int} (hN : l.length < N) : condition_in N l n = some (ins l n) := by
  unfold condition_in slices_ContainsFunc_api_Span_api_Span__141 slices_IndexFunc_api_Span_api_Span__141
  rw [iter_find l (fun s => decide (s.From ≤ n) && decide (n ≤ s.To)) (fun k s hk => ?_) ?_ N hN, find_any]
  · simp only [Option.bind_some, find_ge]; rfl
  · unfold slices_IndexFunc_api_Span_api_Span__141_b1
    simp only [dnlt, cond_false]
  · unfold slices_IndexFunc_api_Span_api_Span__141_b1 condition_in_1
    simp only [dltx hk, cond_true, idx_some hk, Option.bind_some]
    by_cases h1 : s.From ≤ n
    · by_cases h2 : n ≤ s.To <;> simp [h1, h2]
    · simp [h1]
theorem Inside_eq {N : Nat} {l : List Span} {n : Int} (hN : l.length < N) : calqueref08_Inside N l n = some (ins l n) := by
  unfold calqueref08_Inside
  rw [iter_anyL (fun s => decide (s.From ≤ n) && decide (n ≤ s.To)) l (fun k s hk => ?_) ?_ N hN]
  · unfold ins; cases l.any (fun s => decide (s.From ≤ n) && decide (n ≤ s.To)) <;> rfl
  · unfold calqueref08_Inside_b1
    simp only [dnlt, cond_false]
  · unfold calqueref08_Inside_b1
    simp only [dltx hk, cond_true, idx_some hk, Option.bind_some]
    by_cases h1 : s.From ≤ n
    · by_cases h2 : n ≤ s.To <;> simp [h1, h2]
    · simp [h1]
theorem holds_eq {N : Nat} {r : Relation} {s : List UInt8} (hs : s.length ≤ 1000) (hN : r.Spans.length < N) : condition_holds N r s = some (hold s r) := by
  unfold condition_holds hold
  rw [prog_Operand_eq hs]
  simp only [Option.bind_some]
  by_cases h : (opd s r.Operand).2 = 0
  · rw [if_pos h, show ((opd s r.Operand).2 != 0) = false by simp [h]]
    simp only [cond_false]
    by_cases hm : r.Mod = 0
    · simp only [hm, show ((0 : Int) != 0) = false from rfl, cond_false, Option.bind_some, in_eq hN, red, if_true]
    · simp only [show (r.Mod != 0) = true by simp [hm], cond_true, rm, if_neg hm, Option.bind_some, in_eq hN, red]
  · rw [if_neg h, show ((opd s r.Operand).2 != 0) = true by simp [h]]; rfl
theorem Relation_eq {N : Nat} {r : Relation} {s : List UInt8} (hs : s.length ≤ 1000) (h3 : 3000 ≤ N) (hN : r.Spans.length < N) : calqueref08_Relation N r s = some (hold s r) := by
  unfold calqueref08_Relation hold
  rw [ref_Operand_eq hs h3]
  simp only [Option.bind_some]
  by_cases h : (opd s r.Operand).2 = 0
  · rw [if_pos h, show ((opd s r.Operand).2 != 0) = false by simp [h]]
    simp only [cond_false]
    by_cases hm : r.Mod = 0
    · simp only [hm, show ((0 : Int) != 0) = false from rfl, cond_false, Option.bind_some, Inside_eq hN, red, if_true]
    · simp only [show (r.Mod != 0) = true by simp [hm], cond_true, rm, if_neg hm, Option.bind_some, Inside_eq hN, red]
  · rw [if_neg h, show ((opd s r.Operand).2 != 0) = true by simp [h]]; rfl
def hr (c : Cnd) (s : List UInt8) : Bool × Int := if vd c && vld s then (hd s c, 0) else (false, 1)
theorem Holds_eq {N : Nat} {c : Cnd} {s : List UInt8} (S : Sz N c) (hs : s.length ≤ 1000) : condition_Holds N c s = some (hr c s) := by
  unfold condition_Holds hr
  rw [Valid_eq S, decimal_Valid_eq hs]
  have hc : slices_ContainsFunc_api_Cond_api_Relation__68 N c s = some (hd s c) := by
    unfold slices_ContainsFunc_api_Cond_api_Relation__68 slices_IndexFunc_api_Cond_api_Relation__68
    rw [iter_find c (fun l => l.all (hold s)) (fun k l hk => ?_) ?_ N S.len, find_any]
    · simp only [Option.bind_some, find_ge]; rfl
    · unfold slices_IndexFunc_api_Cond_api_Relation__68_b1
      simp only [dnlt, cond_false]
    · have hl := List.mem_of_getElem? hk
      unfold slices_IndexFunc_api_Cond_api_Relation__68_b1 condition_Holds_1 slices_ContainsFunc_api_Relation_api_Relation__70 slices_IndexFunc_api_Relation_api_Relation__70
      simp only [dltx hk, cond_true, idx_some hk, Option.bind_some]
      rw [iter_find l (fun r => !hold s r) (fun j r hj => ?_) ?_ N (S.lens l hl), find_any]
      · simp only [Option.bind_some, find_ge]
        rw [show (l.any fun r => !hold s r) = !(l.all (hold s)) by rw [List.not_all_eq_any_not], Bool.not_not]
        cases l.all (hold s) <;> rfl
      · unfold slices_IndexFunc_api_Relation_api_Relation__70_b1
        simp only [dnlt, cond_false]
      · unfold slices_IndexFunc_api_Relation_api_Relation__70_b1 condition_Holds_1_1
        simp only [dltx hj, cond_true, idx_some hj, Option.bind_some, holds_eq hs (S.spans l hl r (List.mem_of_getElem? hj))]
        cases hold s r <;> rfl
  rw [hc]
  simp only [Option.bind_some]
  cases vd c <;> cases vld s <;> rfl
theorem ref_Holds_eq {N : Nat} {c : Cnd} {s : List UInt8} (S : Sz N c) (hs : s.length ≤ 1000) : calqueref08_Holds N c s = some (hr c s) := by
  unfold calqueref08_Holds hr
  rw [ref_Valid_c S, ref_Valid_eq hs S.n]
  have hc : iter (fun s_1 => calqueref08_Holds_b1 N c s s_1) N 0 = some (if hd s c then .inr (true, 0) else .inl ()) := by
    have e : ∀ xs : Cnd, run (σ := Unit) (β := Unit ⊕ (Bool × Int)) (fun _ l => if l.all (hold s) then .inr (.inr (true, 0)) else .inl ()) (fun _ => .inl ()) () xs = if hd s xs then .inr (true, 0) else .inl () := by
      intro xs
      induction xs with
      | nil => rfl
      | cons l xs ih =>
        unfold run
        unfold hd at ih ⊢
        cases h : l.all (hold s) with
        | true => simp [h]
        | false => simp only [Bool.false_eq_true, if_false, ih, List.any_cons, h, Bool.false_or]
    rw [← e c]
    refine iter_list' (σ := Unit) (fun _ k => k) c _ _ (fun _ k l hk => ?_) (fun _ => ?_) N () S.len
    · have hl := List.mem_of_getElem? hk
      unfold calqueref08_Holds_b1
      have hrun : ∀ (xs : List Relation) (b : Bool), run (σ := Bool) (β := Bool) (fun b r => .inl (b && hold s r)) (fun b => b) b xs = (b && xs.all (hold s)) := by
        intro xs
        induction xs with
        | nil => intro b; simp [run]
        | cons r xs ih => intro b; unfold run; simp only [ih, List.all_cons, Bool.and_assoc]
      have hin : iter (fun s_1 => calqueref08_Holds_b2 N c s k s_1.1 s_1.2) N (true, 0) = some (l.all (hold s)) := by
        have h := iter_list' (body := fun s_1 : Bool × Int => calqueref08_Holds_b2 N c s k s_1.1 s_1.2) (fun (b : Bool) k => (b, k)) l (fun b r => .inl (b && hold s r)) (fun b => b) (fun b j r hj => ?_) (fun b => ?_) N true (S.lens l hl)
        · rw [show ((true, (0 : Int)) : Bool × Int) = (fun b k => (b, k)) true (0 : Int) from rfl, h, hrun]; rfl
        · show calqueref08_Holds_b2 N c s k b j = _
          unfold calqueref08_Holds_b2
          simp only [idx_some hk, Option.bind_some, dltx hj, cond_true, idx_some hj, Relation_eq hs S.n (S.spans l hl r (List.mem_of_getElem? hj))]
          cases b <;> rfl
        · show calqueref08_Holds_b2 N c s k b l.length = _
          unfold calqueref08_Holds_b2
          simp only [idx_some hk, Option.bind_some, dnlt, cond_false]
      simp only [dltx hk, cond_true, hin, Option.bind_some]
      cases l.all (hold s) <;> rfl
    · unfold calqueref08_Holds_b1
      simp only [dnlt, cond_false]
  rw [hc]
  simp only [Option.bind_some]
  cases vd c <;> cases vld s <;> cases hd s c <;> rfl

theorem Few_some {N : Nat} {c : Cnd} (S : Sz N c) : ∃ b, calqueref08_Few N c = some b := by
  unfold calqueref08_Few
  have hin : ∀ (n : Int) (k : Nat) l, c[k]? = some l → ∃ n', iter (fun s => calqueref08_Few_b2 N c k s.1 s.2) N (n, 0) = some n' := by
    intro n k l hk
    have h := iter_list' (body := fun s : Int × Int => calqueref08_Few_b2 N c k s.1 s.2) (fun (n : Int) k => (n, k)) l (fun n r => .inl (IntKind.wrap .i64 (n + (IntKind.wrap .i64 ((1 : Int) + (r.Spans.length : Int)))))) (fun n => n) (fun n j r hj => ?_) (fun n => ?_) N n (S.lens l (List.mem_of_getElem? hk))
    · exact ⟨_, h⟩
    · show calqueref08_Few_b2 N c k n j = _
      unfold calqueref08_Few_b2
      simp only [idx_some hk, Option.bind_some, dltx hj, cond_true, idx_some hj]
    · show calqueref08_Few_b2 N c k n l.length = _
      unfold calqueref08_Few_b2
      simp only [idx_some hk, Option.bind_some, dnlt, cond_false]
  let g : Int → Nat → Int := fun n k => (iter (fun s => calqueref08_Few_b2 N c k s.1 s.2) N (n, 0)).getD 0
  have hg : ∀ (n : Int) (k : Nat) l, c[k]? = some l → iter (fun s => calqueref08_Few_b2 N c k s.1 s.2) N (n, 0) = some (g n k) := by
    intro n k l hk
    obtain ⟨n', h⟩ := hin n k l hk
    show _ = some ((iter _ N (n, 0)).getD 0)
    rw [h]; rfl
  have h := iter_list (body := fun s : Int × Int => calqueref08_Few_b1 N c s.1 s.2) (σ := Int × Nat) (fun n k => (n.1, k)) c (fun n _ => if g n.1 n.2 > 80 then .inr (.inr false) else .inl (g n.1 n.2, n.2 + 1)) (fun _ => .inl ()) (fun k n => n.2 = k) (fun n k l hk hI => ?_) (fun n _ => ?_) N (0, 0) S.len rfl
  · rw [show ((0 : Int), (0 : Int)) = (fun (n : Int × Nat) (k : Int) => (n.1, k)) (0, 0) (0 : Int) from rfl, h]
    cases run _ _ ((0 : Int), (0 : Nat)) c with
    | inl _ => exact ⟨_, rfl⟩
    | inr b => exact ⟨_, rfl⟩
  · subst hI
    constructor
    · show calqueref08_Few_b1 N c n.1 n.2 = _
      unfold calqueref08_Few_b1
      simp only [dltx hk, cond_true, hg n.1 n.2 l hk, Option.bind_some]
      by_cases h : g n.1 n.2 > 80
      · simp [h]
      · simp [h]
    · intro s' h
      split at h
      · cases h
      · cases h; rfl
  · show calqueref08_Few_b1 N c n.1 c.length = _
    unfold calqueref08_Few_b1
    simp only [dnlt, cond_false]
end Go.Proofs.YtidfofhmnlhfjaaGreatDoor

namespace Go.Proofs.YtidfofhmnlhfjaaGreatDoor
open Go.X

/-! ### the text of a number's parts, and back -/
def mkt (n : Bool) (w f : List UInt8) : List UInt8 := (if n && !(w.all zr && f.all zr) then [45] else []) ++ (w ++ if f = [] then [] else 46 :: f)
/-- A whole part: digits, not empty, no needless zero. -/
def Wh (w : List UInt8) : Prop := w.all dgt = true ∧ (w = [48] ∨ ∃ c t, w = c :: t ∧ c ≠ 48)
theorem vld_parts {s : List UInt8} (h : vld s = true) : Wh (wh s) ∧ (wh s).length ≤ 15 ∧ (fr s).all dgt = true ∧ (fr s).length ≤ 6 ∧ (pt s = true → fr s ≠ []) := by
  unfold vld at h
  simp only [Bool.and_eq_true, Bool.not_eq_true', decide_eq_false_iff_not, Bool.and_eq_false_imp, decide_eq_true_eq] at h
  obtain ⟨h1, h2, h3, h4, h5, h6, h7, _⟩ := h
  refine ⟨⟨h3, ?_⟩, by omega, h7, by omega, fun hp e => ?_⟩
  · cases hw : wh s with
    | nil => rw [hw] at h1; simp at h1
    | cons c t =>
      by_cases hc : c = 48
      · left
        cases t with
        | nil => rw [hc]
        | cons d t =>
          rw [hw] at h4
          have := h4 (by simp only [List.length_cons]; omega)
          subst hc
          exact Bool.noConfusion (show true = false from this)
      · exact .inr ⟨c, t, rfl, hc⟩
  · have := h5 hp
    rw [e] at this
    simp at this
theorem fnd_digits : ∀ (w r : List UInt8), w.all dgt = true → (r = [] ∨ ∃ t, r = 46 :: t) → fnd [46] (w ++ r) = w.length
  | [], r, _, hr => by
    rcases hr with rfl | ⟨t, rfl⟩ <;> rfl
  | c :: w, r, h, hr => by
    rw [List.all_cons, Bool.and_eq_true] at h
    have hc : c ≠ 46 := fun e => by rw [e] at h; exact absurd h.1 (by decide)
    rw [List.cons_append, fnd_cons, if_neg (by simp [List.isPrefixOf, Ne.symm hc]), fnd_digits w r h.2 hr]
    rfl
theorem parse_mkt {n : Bool} {w f : List UInt8} (hw : Wh w) (hf : f.all dgt = true) : neg (mkt n w f) = (n && !(w.all zr && f.all zr)) ∧ wh (mkt n w f) = w ∧ fr (mkt n w f) = f ∧ pt (mkt n w f) = decide (f ≠ []) := by
  have hne : w ≠ [] := by rcases hw.2 with rfl | ⟨c, t, rfl, _⟩ <;> simp
  have hneg : neg (mkt n w f) = (n && !(w.all zr && f.all zr)) := by
    unfold mkt
    cases (n && !(w.all zr && f.all zr)) with
    | true => rfl
    | false =>
      cases w with
      | nil => exact absurd rfl hne
      | cons c t =>
        have h := hw.1
        rw [List.all_cons, Bool.and_eq_true] at h
        have hc : c ≠ 45 := fun e => by rw [e] at h; exact absurd h.1 (by decide)
        simp [neg, List.isPrefixOf, Ne.symm hc]
  have hbod : bod (mkt n w f) = w ++ if f = [] then [] else 46 :: f := by
    unfold bod
    rw [hneg]
    unfold mkt
    cases (n && !(w.all zr && f.all zr)) <;> rfl
  have hfnd : fnd [46] (w ++ if f = [] then [] else 46 :: f) = w.length := by
    refine fnd_digits w _ hw.1 ?_
    split
    · exact .inl rfl
    · exact .inr ⟨f, rfl⟩
  have hpt : pt (mkt n w f) = decide (f ≠ []) := by
    unfold pt
    rw [hbod, hfnd]
    cases f with
    | nil => simp
    | cons a t => simp
  refine ⟨hneg, ?_, ?_, hpt⟩
  · unfold wh
    rw [hbod, hfnd, List.take_left]
  · unfold fr
    rw [hpt, hbod, hfnd]
    cases f with
    | nil => simp
    | cons a t =>
      rw [if_pos (by simp), if_neg (by simp), List.drop_append]
      simp
theorem vld_mkt {n : Bool} {w f : List UInt8} (hw : Wh w) (hw15 : w.length ≤ 15) (hf : f.all dgt = true) (hf6 : f.length ≤ 6) : vld (mkt n w f) = true := by
  obtain ⟨e1, e2, e3, e4⟩ := parse_mkt (n := n) hw hf
  unfold vld
  rw [e1, e2, e3, e4, hw.1, hf]
  have hl : 1 ≤ w.length := by rcases hw.2 with rfl | ⟨c, t, rfl, _⟩ <;> simp
  have h4 : (decide ((w.length : Int) > 1) && ((w.getD 0 0).toNat : Int) == 48) = false := by
    rcases hw.2 with rfl | ⟨c, t, rfl, hc⟩
    · rfl
    · have : (((c :: t).getD 0 0).toNat : Int) = c.toNat := rfl
      rw [this]
      have : ((c.toNat : Int) == 48) = false := by
        rw [beq_eq_false_iff_ne]; intro e
        exact hc (UInt8.toNat_inj.1 (by show c.toNat = 48; omega))
      rw [this, Bool.and_false]
  rw [h4, decide_eq_false (show ¬ ((w.length : Int) < 1) by omega), decide_eq_false (show ¬ ((w.length : Int) > 15) by omega), decide_eq_false (show ¬ ((f.length : Int) > 6) by omega)]
  have h5 : (decide (f ≠ []) && ((f.length : Int) == 0)) = false := by
    cases f with
    | nil => rfl
    | cons a t => simp; omega
  rw [h5]
  cases n <;> cases (w.all zr && f.all zr) <;> rfl
theorem vld_len {s : List UInt8} (h : vld s = true) : s.length ≤ 30 := by
  obtain ⟨_, p2, _, p4, _⟩ := vld_parts h
  have h1 : s.length ≤ (bod s).length + 1 := by
    unfold bod
    split
    · rw [List.length_drop]; omega
    · omega
  have h2 : (bod s).length ≤ (wh s).length + (fr s).length + 1 := by
    have := scan_le (fun l => ([46] : List UInt8).isPrefixOf l) (bod s)
    unfold wh fr pt fnd
    rw [List.length_take]
    split
    · rw [List.length_drop]; omega
    · rename_i h3
      have := of_decide_eq_false (Bool.eq_false_iff.2 h3)
      simp only [List.length_nil]; omega
  omega

/-! ### sizes of what is joined -/
theorem sz_append (c d : Cnd) : sz (c ++ d) = sz c + sz d := by
  unfold sz
  rw [List.map_append, List.sum_append, List.length_append]
  omega
theorem Few_len {N : Nat} {c : Cnd} (S : Sz N c) (h : calqueref08_Few N c = some true) : c.length ≤ 30 := by
  unfold calqueref08_Few at h
  cases ho : iter (fun s => calqueref08_Few_b1 N c s.1 s.2) N ((0 : Int), (0 : Int)) with
  | none => rw [ho] at h; cases h
  | some o =>
    rw [ho] at h
    simp only [Option.bind_some] at h
    cases o with
    | inl _ =>
      simp only [Sum.elim_inl, Option.some.injEq, decide_eq_true_eq] at h
      omega
    | inr b =>
      -- an early end says no
      have key : ∀ (N' : Nat) (s : Int × Int), iter (fun s => calqueref08_Few_b1 N c s.1 s.2) N' s = some (.inr b) → b = false := by
        intro N'
        induction N' with
        | zero => intro s h; cases h
        | succ N' ih =>
          intro s h
          rw [iter] at h
          cases hb : calqueref08_Few_b1 N c s.1 s.2 with
          | none => rw [hb] at h; cases h
          | some r =>
            rw [hb] at h
            cases r with
            | inl s' => exact ih s' h
            | inr x =>
              simp only [Option.some.injEq] at h
              subst h
              unfold calqueref08_Few_b1 at hb
              cases hd : decide (s.2 < (c.length : Int)) with
              | false => rw [hd] at hb; simp at hb
              | true =>
                rw [hd] at hb
                simp only [cond_true] at hb
                obtain ⟨o, _, hb⟩ := bnd hb
                cases hg : decide (o > 80) with
                | false => rw [hg] at hb; simp at hb
                | true => rw [hg] at hb; simp at hb; exact hb
      have := key N _ ho
      subst this
      simp at h
theorem vd_nonempty {c : Cnd} (h : vd c = true) : ∃ r l c', c = (r :: l) :: c' := by
  unfold vd at h
  simp only [Bool.and_eq_true, decide_eq_true_eq] at h
  obtain ⟨h1, h2, _⟩ := h
  cases c with
  | nil => simp at h1
  | cons l c =>
    rw [List.all_cons, Bool.and_eq_true] at h2
    cases l with
    | nil => simp [fine] at h2
    | cons r l => exact ⟨r, l, c, rfl⟩
theorem vd_prp {c : Cnd} (h : vd c = true) : ∀ l ∈ c, ∀ r ∈ l, prp r = true := by
  unfold vd at h
  simp only [Bool.and_eq_true, decide_eq_true_eq] at h
  intro l hl r hr
  have := List.all_eq_true.1 h.2.1 l hl
  unfold fine at this
  rw [Bool.and_eq_true] at this
  exact List.all_eq_true.1 this.2 r hr
theorem vd_one {r : Relation} (h : prp r = true) : vd [[r]] = true := by
  unfold vd fine tot
  simp [h]
  decide
theorem app_some {α : Type} {xs ys : List α} (h : xs.length + ys.length ≤ 4294967296) : app xs ys = some (xs ++ ys) := by unfold app LIM; rw [if_pos h]
theorem hold_not {s : List UInt8} {r : Relation} (r' : Relation) (h1 : r'.Operand = r.Operand) (h2 : r'.Mod = r.Mod) (h3 : r'.Spans = r.Spans) (h4 : r'.Not = !r.Not) : hold s r' = !hold s r := by
  unfold hold red
  rw [h1, h2, h3, h4]
  split
  · generalize ins r.Spans _ = b
    cases b <;> cases r.Not <;> rfl
  · rfl

/-! ### the same value -/
theorem opd_of {s t : List UInt8} (hs : vld s = true) (ht : vld t = true) (hw : wh t = wh s) (hf : fr t = fr s) (o : Int) : opd t o = opd s o := by
  unfold opd; rw [hs, ht, hw, hf]
theorem rt_rt (f : List UInt8) : rt (rt f) = rt f := by
  induction f using snoc_ind with
  | h0 => rfl
  | h1 l c ih =>
    rw [rt_snoc]
    split
    · exact ih
    · rename_i h
      rw [rt_snoc, if_neg h]
theorem rt_zr (f : List UInt8) : (rt f).all zr = f.all zr := by
  induction f using snoc_ind with
  | h0 => rfl
  | h1 l c ih =>
    rw [rt_snoc]
    split
    · rename_i h
      rw [ih, List.all_append]; simp [h]
    · rfl
theorem opd_rt {s t : List UInt8} (hs : vld s = true) (ht : vld t = true) (hw : wh t = wh s) (hf : fr t = rt (fr s)) (o : Int) (h3 : o ≠ 3) (h5 : o ≠ 5) : opd t o = opd s o := by
  unfold opd; rw [hs, ht, hw, hf, rt_zr, rt_rt]
  simp only [h3, h5, if_false]
theorem hd_of {s t : List UInt8} {c : Cnd} (h : ∀ l ∈ c, ∀ r ∈ l, opd t r.Operand = opd s r.Operand) : hd t c = hd s c := by
  unfold hd
  have : ∀ l ∈ c, l.all (hold t) = l.all (hold s) := by
    intro l hl
    rw [Bool.eq_iff_iff, List.all_eq_true, List.all_eq_true]
    have e : ∀ r ∈ l, hold t r = hold s r := fun r hr => by unfold hold; rw [h l hl r hr]
    exact ⟨fun k r hr => by rw [← e r hr]; exact k r hr, fun k r hr => by rw [e r hr]; exact k r hr⟩
  rw [Bool.eq_iff_iff, List.any_eq_true, List.any_eq_true]
  exact ⟨fun ⟨l, hl, k⟩ => ⟨l, hl, by rw [← this l hl]; exact k⟩, fun ⟨l, hl, k⟩ => ⟨l, hl, by rw [this l hl]; exact k⟩⟩
theorem mkt_len (n : Bool) (w f : List UInt8) : (mkt n w f).length ≤ w.length + f.length + 2 := by
  unfold mkt
  split <;> split <;> simp only [List.length_append, List.length_cons, List.length_nil] <;> omega

end Go.Proofs.YtidfofhmnlhfjaaGreatDoor
