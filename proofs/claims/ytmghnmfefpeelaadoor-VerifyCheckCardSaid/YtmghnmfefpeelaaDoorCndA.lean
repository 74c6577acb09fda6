/- Numbers: what the small functions compute (splitting, digits), in plain words. -/
import Derived.Test.YtmghnmfefpeelaaDoorExt34p1
import Derived.Test.YtmghnmfefpeelaaDoorLibN
set_option linter.unusedVariables false
namespace Go.Proofs.YtmghnmfefpeelaaDoor
open Go.X

/-! ### digits -/
def dgt (c : UInt8) : Bool := decide (48 ≤ c.toNat) && decide (c.toNat ≤ 57)
def zr (c : UInt8) : Bool := c == 48

theorem dropWhile_nil {α : Type} (p : α → Bool) : ∀ l : List α, l.dropWhile p = [] ↔ ∀ x ∈ l, p x = true
  | [] => by simp
  | b :: l => by
    have ih := dropWhile_nil p l
    cases h : p b with
    | true => simp [h, ih]
    | false => simp [h]
theorem trim_nil (l cs : List UInt8) : (Lib.trimS l cs == []) = l.all (cs.contains ·) := by
  have h : Lib.trimS l cs = [] ↔ ∀ x ∈ l, cs.contains x = true := by
    unfold Lib.trimS Lib.trimLeftS Lib.trimRightS
    rw [dropWhile_nil]
    constructor
    · intro h x hx
      have e := List.takeWhile_append_dropWhile (p := fun b => cs.contains b) (l := l.reverse)
      have hx' : x ∈ l.reverse := List.mem_reverse.2 hx
      rw [← e] at hx'
      rcases List.mem_append.1 hx' with h1 | h1
      · exact List.all_eq_true.1 List.all_takeWhile x h1
      · exact h x (List.mem_reverse.2 h1)
    · intro h x hx
      refine h x ?_
      have := List.mem_reverse.1 hx
      exact List.mem_reverse.1 ((List.dropWhile_sublist _).mem this)
  rw [beq_nil, Bool.eq_iff_iff]
  simp only [decide_eq_true_eq, List.all_eq_true]
  exact h
theorem contains_dgt (c : UInt8) : ([48, 49, 50, 51, 52, 53, 54, 55, 56, 57] : List UInt8).contains c = dgt c := by
  have h : ∀ n, n < 256 → ([48, 49, 50, 51, 52, 53, 54, 55, 56, 57] : List UInt8).contains (UInt8.ofNat n) = dgt (UInt8.ofNat n) := by decide +kernel
  have := h c.toNat c.toNat_lt
  simpa using this
theorem decimal_digits_eq (N : Nat) (s : List UInt8) : decimal_digits N s = some (s.all dgt) := by
  unfold decimal_digits strings_Trim
  rw [if_pos ⟨by decide, by decide⟩]
  simp only [Option.bind_some, trim_nil]
  congr 2
  funext c
  exact contains_dgt c
theorem decimal_zero_eq (N : Nat) (s : List UInt8) : decimal_zero N s = some (s.all zr) := by
  unfold decimal_zero strings_Trim
  rw [if_pos ⟨by decide, by decide⟩]
  simp only [Option.bind_some, trim_nil]
  congr 2
  funext c
  simp [zr]
  rfl
theorem ref_digits_eq {N : Nat} {s : List UInt8} (hN : s.length < N) : calqueref07_digits N s = some (s.all dgt) := by
  unfold calqueref07_digits
  rw [iter_all dgt false s (fun k c hk => ?_) ?_ N hN]
  · cases s.all dgt <;> rfl
  · unfold calqueref07_digits_b1
    simp
  · have hlt := (List.getElem?_eq_some_iff.1 hk).1
    unfold calqueref07_digits_b1
    simp only [idx_some hk, Option.bind_some, show decide ((k : Int) < (s.length : Int)) = true from decide_eq_true (by omega), cond_true]
    unfold dgt
    by_cases h1 : (c.toNat : Int) < 48
    · simp only [decide_eq_true h1, cond_true]
      rw [if_neg]
      simp; omega
    · simp only [decide_eq_false h1, cond_false]
      by_cases h2 : (c.toNat : Int) > 57
      · simp only [decide_eq_true h2, cond_true]
        rw [if_neg]
        simp; omega
      · simp only [decide_eq_false h2, cond_false]
        rw [if_pos]
        simp; omega
theorem ref_Zero_eq {N : Nat} {s : List UInt8} (hN : s.length < N) : calqueref07_Zero N s = some (s.all zr) := by
  unfold calqueref07_Zero
  rw [iter_all zr false s (fun k c hk => ?_) ?_ N hN]
  · cases s.all zr <;> rfl
  · unfold calqueref07_Zero_b1
    simp
  · have hlt := (List.getElem?_eq_some_iff.1 hk).1
    unfold calqueref07_Zero_b1
    simp only [idx_some hk, Option.bind_some, show decide ((k : Int) < (s.length : Int)) = true from decide_eq_true (by omega), cond_true]
    unfold zr
    by_cases h1 : c = 48
    · subst h1; rfl
    · have : ((c.toNat : Int) != 48) = true := by
        rw [bne_iff_ne]
        intro e
        exact h1 (UInt8.toNat_inj.1 (by show c.toNat = 48; omega))
      simp [this, h1]

/-! ### the parts of a number -/
def neg (s : List UInt8) : Bool := ([45] : List UInt8).isPrefixOf s
def bod (s : List UInt8) : List UInt8 := if neg s then s.drop 1 else s
def pt (s : List UInt8) : Bool := decide (fnd [46] (bod s) < (bod s).length)
def wh (s : List UInt8) : List UInt8 := (bod s).take (fnd [46] (bod s))
def fr (s : List UInt8) : List UInt8 := if pt s then (bod s).drop (fnd [46] (bod s) + 1) else []
def vld (s : List UInt8) : Bool :=
  !(decide (((wh s).length : Int) < 1)) && (!(decide (((wh s).length : Int) > 15)) && ((wh s).all dgt && (!(decide (((wh s).length : Int) > 1) && (((wh s).getD 0 0).toNat : Int) == 48) &&
  (!(pt s && (((fr s).length : Int) == 0)) && (!(decide (((fr s).length : Int) > 6)) && ((fr s).all dgt && !(neg s && ((wh s).all zr && (fr s).all zr))))))))
theorem bod_len (s : List UInt8) : (bod s).length ≤ s.length := by unfold bod; split <;> simp
theorem wh_len (s : List UInt8) : (wh s).length ≤ s.length := by have := bod_len s; unfold wh; rw [List.length_take]; omega
theorem fr_len (s : List UInt8) : (fr s).length ≤ s.length := by have := bod_len s; unfold fr; split; rw [List.length_drop]; omega; simp
theorem prog_cut {N : Nat} {s : List UInt8} (hs : s.length ≤ 1000) : (strings_CutPrefix N s [45]).bind (fun r => (strings_Cut N r.1 [46]).bind fun q => some (r.2, q)) = some (neg s, wh s, fr s, pt s) := by
  have hl := bod_len s
  unfold strings_CutPrefix strings_Cut
  have e : Lib.trimPrefix s [45] = bod s := rfl
  have e2 : Lib.hasPrefix s [45] = neg s := rfl
  rw [e, e2]
  simp only [Option.bind_some]
  rw [if_pos (by omega), cut_fnd (by decide)]
  simp only [Option.bind_some]
  unfold wh fr pt
  by_cases h1 : fnd [46] (bod s) < (bod s).length
  · simp [h1]
  · have : fnd [46] (bod s) = (bod s).length := by have := scan_le (fun l => ([46] : List UInt8).isPrefixOf l) (bod s); unfold fnd at h1 ⊢; omega
    simp [this]
theorem prog_cut1 {N : Nat} {s : List UInt8} : strings_CutPrefix N s [45] = some (bod s, neg s) := rfl
theorem prog_cut2 {N : Nat} {s : List UInt8} (hs : s.length ≤ 1000) : strings_Cut N (bod s) [46] = some (wh s, fr s, pt s) := by
  have := prog_cut (N := N) hs
  rw [prog_cut1] at this
  simp only [Option.bind_some] at this
  cases h : strings_Cut N (bod s) [46] with
  | none => rw [h] at this; cases this
  | some q => rw [h] at this; simp only [Option.bind_some, Option.some.injEq, Prod.mk.injEq, true_and] at this; obtain ⟨rfl⟩ := this; rfl

theorem decimal_split_eq {N : Nat} {s : List UInt8} (hs : s.length ≤ 1000) : decimal_split N s = some (Number.mk (neg s) (wh s) (fr s), vld s) := by
  unfold decimal_split
  rw [prog_cut1]
  simp only [Option.bind_some]
  rw [prog_cut2 hs]
  simp only [Option.bind_some, decimal_digits_eq, decimal_number_zero, decimal_zero_eq]
  unfold vld
  generalize pt s = b5
  generalize neg s = b9
  generalize fr s = f
  generalize hw : wh s = w
  cases w with
  | nil => rfl
  | cons c t =>
    have hi : idx (c :: t) 0 = some c := rfl
    have hg : (c :: t).getD 0 0 = c := rfl
    simp only [hi, hg, Option.bind_some]
    generalize decide ((((c :: t).length : Nat) : Int) < 1) = b1
    generalize decide ((((c :: t).length : Nat) : Int) > 15) = b2
    generalize decide ((((c :: t).length : Nat) : Int) > 1) = b4
    generalize ((c.toNat : Int) == 48) = b3
    generalize ((f.length : Int) == 0) = b6
    generalize decide ((f.length : Int) > 6) = b7
    generalize (c :: t).all dgt = d1
    generalize f.all dgt = d2
    generalize (c :: t).all zr = z1
    generalize f.all zr = z2
    cases b1 <;> cases b2 <;> cases d1 <;> cases b4 <;> cases b3 <;> try rfl
    all_goals cases b5 <;> cases b6 <;> cases b7 <;> cases d2 <;> try rfl
    all_goals cases b9 <;> cases z1 <;> cases z2 <;> rfl

theorem wf_len (s : List UInt8) : (wh s).length + (fr s).length ≤ s.length := by
  have := bod_len s
  have := scan_le (fun l => ([46] : List UInt8).isPrefixOf l) (bod s)
  unfold wh fr fnd
  rw [List.length_take]
  split
  · rw [List.length_drop]; omega
  · simp only [List.length_nil]; omega
theorem ref_split_big {N : Nat} {s : List UInt8} (hs : s.length ≤ LIMS) (hN : s.length + 1000 ≤ N) : calqueref07_Split N s = some (if vld s then Number2.mk (neg s) (wh s) (fr s) else Number2.mk false [] [], vld s) := by
  unfold calqueref07_Split
  cases s with
  | nil =>
    simp only [List.length_nil, show decide (((0 : Nat) : Int) > 0) = false from rfl, cond_false]
    rw [iter_scan (fun l => ([46] : List UInt8).isPrefixOf l) [] (fun k hk => by simp only [List.length_nil, Nat.le_zero] at hk; subst hk; rfl) N (by simp; omega)]
    have e : ∀ x : Option Bool, (x.bind fun r97 => bif !r97 then some (Number2.mk false [] [], false) else some (Number2.mk false [] [], false)) = x.bind fun _ => some (Number2.mk false [] [], false) := fun x => by cases x <;> simp
    simp only [Option.bind_some, scan]
    rw [show slc ([] : List UInt8) 0 ((0 : Nat) : Int) = some [] from rfl]
    simp only [Option.bind_some, List.length_nil, show decide (((0 : Nat) : Int) < ((0 : Nat) : Int)) = false from rfl, cond_false, Sum.elim_inl]
    rw [show cat [] [] = some [] from rfl]
    simp only [Option.bind_some]
    rw [ref_digits_eq (by simp; omega)]
    rfl
  | cons c t =>
    simp only [List.length_cons] at hs
    simp only [List.length_cons, show decide (((t.length + 1 : Nat) : Int) > 0) = true from decide_eq_true (by omega), cond_true]
    have hi : idx (c :: t) 0 = some c := rfl
    simp only [hi, Option.bind_some]
    have hnb : (bif ((c.toNat : Int) == 45) then ((slc (c :: t) 1 ((t.length + 1 : Nat) : Int)).bind fun s15 => some (s15, Number2.mk true [] [])).bind fun o11 => some (o11.1, o11.2) else some (c :: t, Number2.mk false [] [])) = some (bod (c :: t), Number2.mk (neg (c :: t)) [] []) := by
      have hneg : neg (c :: t) = ((c.toNat : Int) == 45) := by
        unfold neg
        by_cases h : c = 45
        · subst h; rfl
        · have : ((c.toNat : Int) == 45) = false := by
            rw [beq_eq_false_iff_ne]; intro e
            exact h (UInt8.toNat_inj.1 (by show c.toNat = 45; omega))
          rw [this]
          simp [List.isPrefixOf, Ne.symm h]
      unfold bod
      rw [hneg]
      cases ((c.toNat : Int) == 45) with
      | false => rfl
      | true =>
        have := slc_drop (xs := c :: t) (a := 1) (by simp)
        simp only [List.length_cons] at this
        rw [show ((1 : Nat) : Int) = 1 from rfl] at this
        simp only [cond_true, this, Option.bind_some, if_true]
    rw [hnb]
    simp only [Option.bind_some]
    have hbl := bod_len (c :: t)
    have hwl := wh_len (c :: t)
    have hfl := wf_len (c :: t)
    simp only [List.length_cons] at hbl hwl hfl hN
    rw [iter_scan (fun l => ([46] : List UInt8).isPrefixOf l) (bod (c :: t)) (fun k hk => ?_) N (by omega)]
    rotate_left
    · unfold calqueref07_Split_b1
      by_cases hlt : k < (bod (c :: t)).length
      · simp only [show decide ((k : Int) < ((bod (c :: t)).length : Int)) = true from decide_eq_true (by omega), cond_true, idx_some (List.getElem?_eq_getElem hlt), Option.bind_some]
        rw [List.drop_eq_getElem_cons hlt]
        by_cases h : (bod (c :: t))[k] = 46
        · rw [if_neg (by rw [h]; simp [List.isPrefixOf]), h]
          rfl
        · have : (((bod (c :: t))[k].toNat : Int) != 46) = true := by
            rw [bne_iff_ne]; intro e
            exact h (UInt8.toNat_inj.1 (by show (bod (c :: t))[k].toNat = 46; omega))
          rw [if_pos ⟨hlt, by simp [List.isPrefixOf, Ne.symm h]⟩, this]
          rfl
      · simp only [show decide ((k : Int) < ((bod (c :: t)).length : Int)) = false from decide_eq_false (by omega), cond_false]
        rw [if_neg (by omega)]
    have hsl := scan_le (fun l => ([46] : List UInt8).isPrefixOf l) (bod (c :: t))
    simp only [Option.bind_some]
    rw [slc_take hsl]
    simp only [Option.bind_some]
    have hw0 : List.take (scan (fun l => ([46] : List UInt8).isPrefixOf l) (bod (c :: t))) (bod (c :: t)) = wh (c :: t) := rfl
    have hp0 : decide (((scan (fun l => ([46] : List UInt8).isPrefixOf l) (bod (c :: t)) : Nat) : Int) < ((bod (c :: t)).length : Int)) = pt (c :: t) := by
      unfold pt fnd
      simp only [Int.ofNat_lt]
    rw [hw0, hp0]
    have hf0 : pt (c :: t) = true → slc (bod (c :: t)) (((scan (fun l => ([46] : List UInt8).isPrefixOf l) (bod (c :: t)) : Nat) : Int) + 1) ((bod (c :: t)).length : Int) = some (fr (c :: t)) := by
      intro h
      have h' := h
      unfold pt at h'
      have h2 := of_decide_eq_true h'
      unfold fr
      rw [if_pos h]
      have := slc_drop (xs := bod (c :: t)) (a := fnd [46] (bod (c :: t)) + 1) h2
      unfold fnd at this ⊢
      simpa using this
    have hf1 : pt (c :: t) = false → fr (c :: t) = [] := fun h => by unfold fr; rw [if_neg (by rw [h]; simp)]
    unfold vld
    generalize hpt : pt (c :: t) = b5 at *
    generalize neg (c :: t) = b9
    generalize fr (c :: t) = f at *
    have hcat := cat_le (a := wh (c :: t)) (b := f) (by omega)
    have hall : (wh (c :: t) ++ f).length < N := by rw [List.length_append]; omega
    have hdg := ref_digits_eq hall
    have hzz := ref_Zero_eq hall
    rw [List.all_append] at hdg hzz
    generalize hw : wh (c :: t) = w at *
    cases b5 with
    | false =>
      have hf := hf1 rfl
      subst hf
      simp only [cond_false, Option.bind_some, Sum.elim_inl, hcat, hdg, hzz]
      cases w with
      | nil => rfl
      | cons a r =>
        have hi : idx (a :: r) 0 = some a := rfl
        have hg : (a :: r).getD 0 0 = a := rfl
        simp only [hi, hg, Option.bind_some]
        generalize decide ((((a :: r).length : Nat) : Int) < 1) = b1
        generalize decide ((((a :: r).length : Nat) : Int) > 15) = b2
        generalize decide ((((a :: r).length : Nat) : Int) > 1) = b4
        generalize ((a.toNat : Int) == 48) = b3
        generalize (a :: r).all dgt = d1
        generalize (a :: r).all zr = z1
        cases b1 <;> cases b2 <;> cases d1 <;> cases b4 <;> cases b3 <;> cases b9 <;> cases z1 <;> rfl
    | true =>
      simp only [cond_true, hf0 rfl, Option.bind_some]
      cases hb6 : ((f.length : Int) == 0) with
      | true =>
        simp only [cond_true, Option.bind_some, Sum.elim_inr]
        simp
      | false =>
        simp only [cond_false, Option.bind_some, Sum.elim_inl, hcat, hdg, hzz]
        cases w with
        | nil => cases f.all dgt <;> rfl
        | cons a r =>
          have hi : idx (a :: r) 0 = some a := rfl
          have hg : (a :: r).getD 0 0 = a := rfl
          simp only [hi, hg, Option.bind_some]
          generalize decide ((((a :: r).length : Nat) : Int) < 1) = b1
          generalize decide ((((a :: r).length : Nat) : Int) > 15) = b2
          generalize decide ((((a :: r).length : Nat) : Int) > 1) = b4
          generalize ((a.toNat : Int) == 48) = b3
          generalize decide ((f.length : Int) > 6) = b7
          generalize (a :: r).all dgt = d1
          generalize f.all dgt = d2
          generalize (a :: r).all zr = z1
          generalize f.all zr = z2
          cases b1 <;> cases b2 <;> cases d1 <;> cases d2 <;> cases b4 <;> cases b3 <;> try rfl
          all_goals cases b7 <;> cases b9 <;> cases z1 <;> cases z2 <;> rfl

theorem ref_split_eq {N : Nat} {s : List UInt8} (hs : s.length ≤ 1000) (hN : 3000 ≤ N) : calqueref07_Split N s = some (if vld s then Number2.mk (neg s) (wh s) (fr s) else Number2.mk false [] [], vld s) := ref_split_big (by unfold LIMS; omega) (by omega)
theorem ref_Valid_big {N : Nat} {s : List UInt8} (hs : s.length ≤ LIMS) (hN : s.length + 1000 ≤ N) : calqueref07_Valid N s = some (vld s) := by
  unfold calqueref07_Valid; rw [ref_split_big hs hN]; rfl
theorem decimal_Valid_eq {N : Nat} {s : List UInt8} (hs : s.length ≤ 1000) : decimal_Valid N s = some (vld s) := by
  unfold decimal_Valid; rw [decimal_split_eq hs]; rfl
theorem ref_Valid_eq {N : Nat} {s : List UInt8} (hs : s.length ≤ 1000) (hN : 3000 ≤ N) : calqueref07_Valid N s = some (vld s) := by
  unfold calqueref07_Valid; rw [ref_split_eq hs hN]; rfl
end Go.Proofs.YtmghnmfefpeelaaDoor
