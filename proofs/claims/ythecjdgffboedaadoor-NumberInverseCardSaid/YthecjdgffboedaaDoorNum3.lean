/- Numbers: rounding, shifting, and the text of a number: the program's and the reference's are one function. -/
import Derived.Test.YthecjdgffboedaaDoorNum2
namespace Go.Proofs.YthecjdgffboedaaDoor
open Go.X

/-! ### the text of parts, and back -/
def mkt (n : Bool) (w f : List UInt8) : List UInt8 := (if n && !(w.all zr && f.all zr) then [45] else []) ++ (w ++ if f = [] then [] else 46 :: f)
def fin (n : Bool) (w f : List UInt8) : List UInt8 × Int := if 15 < w.length then ([], 2) else if 6 < f.length then ([], 2) else (mkt n w f, 0)
/-- Digits without needless zeros. -/
def ld (w : List UInt8) : List UInt8 := if w.dropWhile zr = [] then [48] else w.dropWhile zr
/-- A whole part: digits, not empty, no needless zero. -/
def Wh (w : List UInt8) : Prop := w.all dgt = true ∧ (w = [48] ∨ ∃ c t, w = c :: t ∧ c ≠ 48)

theorem cond_neg (n z : Bool) {a b : List UInt8} : (bif n then (bif !z then some a else some b) else some b) = some (if n && !z then a else b) := by cases n <;> cases z <;> rfl

theorem permitted_eq {N : Nat} {n : Bool} {w f : List UInt8} (hw : w.length ≤ 1000) (hf : f.length ≤ 1000) : decimal_number_permitted N ⟨n, w, f⟩ = some (fin n w f) := by
  unfold decimal_number_permitted fin
  by_cases h1 : 15 < w.length
  · rw [if_pos h1]; simp only [show decide ((w.length : Int) > 15) = true from decide_eq_true (by omega), cond_true]
  rw [if_neg h1]; simp only [show decide ((w.length : Int) > 15) = false from decide_eq_false (by omega), cond_false]
  by_cases h2 : 6 < f.length
  · rw [if_pos h2]; simp only [show decide ((f.length : Int) > 6) = true from decide_eq_true (by omega), cond_true]
  rw [if_neg h2]; simp only [show decide ((f.length : Int) > 6) = false from decide_eq_false (by omega), cond_false]
  unfold decimal_number_text mkt
  have ho : (bif f != [] then (cat [46] f).bind fun s7 => (cat w s7).bind fun s9 => some s9 else some w) = some (w ++ if f = [] then [] else 46 :: f) := by
    cases f with
    | nil => simp
    | cons a t =>
      rw [show ((a :: t : List UInt8) != []) = true from rfl, cond_true, cat_some (by simp only [List.length_cons, List.length_nil] at *; omega), Option.bind_some, cat_some (by simp only [List.length_append, List.length_cons, List.length_nil] at *; omega)]
      rfl
  rw [ho]
  simp only [Option.bind_some, decimal_number_zero, decimal_zero_eq]
  have hz : (bif w.all zr then some (f.all zr) else some false) = some (w.all zr && f.all zr) := by cases w.all zr <;> rfl
  rw [hz]
  have hc : cat [45] (w ++ if f = [] then [] else 46 :: f) = some (45 :: (w ++ if f = [] then [] else 46 :: f)) := by
    rw [cat_some (by split <;> simp only [List.length_append, List.length_cons, List.length_nil] <;> omega)]; rfl
  simp only [Option.bind_some, hc]
  cases n <;> cases (w.all zr && f.all zr) <;> rfl

theorem lead_eq {N : Nat} : ∀ {w : List UInt8}, w ≠ [] → w.length < N → calqueref07_lead N w = some (ld w) := by
  have key : ∀ (w : List UInt8) N0 N, w ≠ [] → w.length < N → iter (fun s => calqueref07_lead_b1 N0 s) N w = some (ld w) := by
    intro w
    induction w with
    | nil => intro _ _ h; exact absurd rfl h
    | cons c t ih =>
      intro N0 N _ hN
      obtain ⟨N, rfl⟩ : ∃ M, N = M + 1 := ⟨N - 1, by omega⟩
      simp only [List.length_cons] at hN
      rw [iter]
      cases t with
      | nil =>
        unfold calqueref07_lead_b1
        simp only [show decide ((([c] : List UInt8).length : Int) > 1) = false from rfl, cond_false]
        unfold ld
        by_cases hc : c = 48
        · subst hc; rfl
        · have : zr c = false := by simp [zr, hc]
          simp [this]
      | cons d t =>
        have hb : calqueref07_lead_b1 N0 (c :: d :: t) = if zr c then some (.inl (d :: t)) else some (.inr (c :: d :: t)) := by
          unfold calqueref07_lead_b1
          simp only [show decide (((c :: d :: t : List UInt8).length : Int) > 1) = true from decide_eq_true (by simp only [List.length_cons]; omega), cond_true, show idx (c :: d :: t) 0 = some c from rfl, Option.bind_some]
          by_cases hc : c = 48
          · subst hc
            have := slc_drop (xs := 48 :: d :: t) (a := 1) (by simp)
            rw [show ((1 : Nat) : Int) = 1 from rfl] at this
            rw [this]
            rfl
          · have : ((c.toNat : Int) == 48) = false := by
              rw [beq_eq_false_iff_ne]; intro e
              exact hc (UInt8.toNat_inj.1 (by show c.toNat = 48; omega))
            simp [this, zr, hc]
        rw [hb]
        cases hz : zr c with
        | true =>
          simp only [if_true]
          rw [ih N0 N (by simp) (by omega)]
          unfold ld
          rw [List.dropWhile_cons (x := c), hz]
          rfl
        | false =>
          simp only [Bool.false_eq_true, if_false]
          unfold ld
          rw [List.dropWhile_cons, hz]
          simp
  intro w hw hN
  unfold calqueref07_lead
  rw [key w N N hw hN]
  rfl
theorem trimmed_eq {N : Nat} {w : List UInt8} : decimal_trimmed N w = some (ld w) := by
  unfold decimal_trimmed strings_TrimLeft
  rw [if_pos ⟨by decide, by decide⟩]
  have e : Lib.trimLeftS w [48] = w.dropWhile zr := by
    unfold Lib.trimLeftS
    congr 1
    funext c
    simp [zr]
    rfl
  simp only [Option.bind_some, e]
  unfold ld
  cases w.dropWhile zr with
  | nil => rfl
  | cons a t => rfl
theorem ld_len (w : List UInt8) : (ld w).length ≤ w.length + 1 := by
  unfold ld
  split
  · simp
  · have := (List.dropWhile_sublist (l := w) zr).length_le; omega
theorem ld_zeros (w : List UInt8) : ∀ k, ld (List.replicate k 48 ++ w) = ld w
  | 0 => rfl
  | k + 1 => by
    have ih := ld_zeros w k
    have e : (List.replicate (k + 1) 48 ++ w).dropWhile zr = (List.replicate k 48 ++ w).dropWhile zr := by
      rw [List.replicate_succ, List.cons_append, List.dropWhile_cons]; rfl
    unfold ld at *
    rw [e]
    exact ih
theorem ld_Wh {w : List UInt8} (h : Wh w) : ld w = w := by
  rcases h.2 with rfl | ⟨c, t, rfl, hc⟩
  · rfl
  · unfold ld
    have : zr c = false := by simp [zr, hc]
    rw [List.dropWhile_cons, this]
    simp
theorem Wh_ld {w : List UInt8} (h : w.all dgt = true) : Wh (ld w) := by
  unfold ld Wh
  split
  · exact ⟨by decide, .inl rfl⟩
  · rename_i h0
    refine ⟨List.all_eq_true.2 fun c hc => List.all_eq_true.1 h c ((List.dropWhile_sublist _).mem hc), .inr ?_⟩
    cases e : w.dropWhile zr with
    | nil => exact absurd e h0
    | cons c t =>
      refine ⟨c, t, rfl, fun hc => ?_⟩
      have := List.head?_dropWhile_not zr w
      rw [e] at this
      simp [zr, hc] at this

theorem checked_eq {N : Nat} {n : Bool} {w f : List UInt8} (hw0 : w ≠ []) (hw : w.length ≤ 1000) (hf : f.length ≤ 1000) (hN : 3000 ≤ N) : calqueref07_checked N ⟨n, w, f⟩ = some (fin n (ld w) f) := by
  unfold calqueref07_checked
  have hl := ld_len w
  rw [lead_eq hw0 (by omega), Option.bind_some]
  generalize ld w = v at *
  unfold fin
  by_cases h1 : 15 < v.length
  · rw [if_pos h1]; simp only [show decide ((v.length : Int) > 15) = true from decide_eq_true (by omega), cond_true]
  rw [if_neg h1]; simp only [show decide ((v.length : Int) > 15) = false from decide_eq_false (by omega), cond_false]
  by_cases h2 : 6 < f.length
  · rw [if_pos h2]; simp only [show decide ((f.length : Int) > 6) = true from decide_eq_true (by omega), cond_true]
  rw [if_neg h2]; simp only [show decide ((f.length : Int) > 6) = false from decide_eq_false (by omega), cond_false]
  unfold calqueref07_Text mkt
  have ho : (bif f != [] then (cat [46] f).bind fun s7 => (cat v s7).bind fun s9 => some s9 else some v) = some (v ++ if f = [] then [] else 46 :: f) := by
    cases f with
    | nil => simp
    | cons a t =>
      rw [show ((a :: t : List UInt8) != []) = true from rfl, cond_true, cat_some (by simp only [List.length_cons, List.length_nil] at *; omega), Option.bind_some, cat_some (by simp only [List.length_append, List.length_cons, List.length_nil] at *; omega)]
      rfl
  rw [ho]
  simp only [Option.bind_some]
  rw [cat_some (by omega), Option.bind_some, ref_Zero_eq (by rw [List.length_append]; omega), List.all_append]
  have hc : cat [45] (v ++ if f = [] then [] else 46 :: f) = some (45 :: (v ++ if f = [] then [] else 46 :: f)) := by
    rw [cat_some (by split <;> simp only [List.length_append, List.length_cons, List.length_nil] <;> omega)]; rfl
  simp only [Option.bind_some, hc]
  cases n <;> cases (v.all zr && f.all zr) <;> rfl

/-! ### valid numbers -/
theorem vld_parts {s : List UInt8} (h : vld s = true) : Wh (wh s) ∧ (wh s).length ≤ 15 ∧ (fr s).all dgt = true ∧ (fr s).length ≤ 6 ∧ (pt s = true → fr s ≠ []) := by
  unfold vld at h
  simp only [Bool.and_eq_true, Bool.not_eq_true', decide_eq_false_iff_not, Bool.and_eq_false_imp, decide_eq_true_eq] at h
  obtain ⟨h1, h2, h3, h4, h5, h6, h7, _⟩ := h
  refine ⟨⟨h3, ?_⟩, by omega, h7, by omega, fun hp e => ?_⟩
  · cases hw : wh s with
    | nil => rw [hw] at h1; simp at h1
    | cons c t =>
      by_cases hc : c = 48
      · left
        cases t with
        | nil => rw [hc]
        | cons d t =>
          rw [hw] at h4
          have := h4 (by simp only [List.length_cons]; omega)
          subst hc
          exact Bool.noConfusion (show true = false from this)
      · exact .inr ⟨c, t, rfl, hc⟩
  · have := h5 hp
    rw [e] at this
    simp at this

theorem fnd_digits : ∀ (w r : List UInt8), w.all dgt = true → (r = [] ∨ ∃ t, r = 46 :: t) → fnd [46] (w ++ r) = w.length
  | [], r, _, hr => by
    rcases hr with rfl | ⟨t, rfl⟩ <;> rfl
  | c :: w, r, h, hr => by
    rw [List.all_cons, Bool.and_eq_true] at h
    have hc : c ≠ 46 := fun e => by rw [e] at h; exact absurd h.1 (by decide)
    rw [List.cons_append, fnd_cons, if_neg (by simp [List.isPrefixOf, Ne.symm hc]), fnd_digits w r h.2 hr]
    rfl
theorem parse_mkt {n : Bool} {w f : List UInt8} (hw : Wh w) (hf : f.all dgt = true) : neg (mkt n w f) = (n && !(w.all zr && f.all zr)) ∧ wh (mkt n w f) = w ∧ fr (mkt n w f) = f ∧ pt (mkt n w f) = decide (f ≠ []) := by
  have hne : w ≠ [] := by rcases hw.2 with rfl | ⟨c, t, rfl, _⟩ <;> simp
  have hneg : neg (mkt n w f) = (n && !(w.all zr && f.all zr)) := by
    unfold mkt
    cases (n && !(w.all zr && f.all zr)) with
    | true => rfl
    | false =>
      cases w with
      | nil => exact absurd rfl hne
      | cons c t =>
        have h := hw.1
        rw [List.all_cons, Bool.and_eq_true] at h
        have hc : c ≠ 45 := fun e => by rw [e] at h; exact absurd h.1 (by decide)
        simp [neg, List.isPrefixOf, Ne.symm hc]
  have hbod : bod (mkt n w f) = w ++ if f = [] then [] else 46 :: f := by
    unfold bod
    rw [hneg]
    unfold mkt
    cases (n && !(w.all zr && f.all zr)) <;> rfl
  have hfnd : fnd [46] (w ++ if f = [] then [] else 46 :: f) = w.length := by
    refine fnd_digits w _ hw.1 ?_
    split
    · exact .inl rfl
    · exact .inr ⟨f, rfl⟩
  have hpt : pt (mkt n w f) = decide (f ≠ []) := by
    unfold pt
    rw [hbod, hfnd]
    cases f with
    | nil => simp
    | cons a t => simp
  refine ⟨hneg, ?_, ?_, hpt⟩
  · unfold wh
    rw [hbod, hfnd, List.take_left]
  · unfold fr
    rw [hpt, hbod, hfnd]
    cases f with
    | nil => simp
    | cons a t =>
      rw [if_pos (by simp), if_neg (by simp), List.drop_append]
      simp
theorem vld_mkt {n : Bool} {w f : List UInt8} (hw : Wh w) (hw15 : w.length ≤ 15) (hf : f.all dgt = true) (hf6 : f.length ≤ 6) : vld (mkt n w f) = true := by
  obtain ⟨e1, e2, e3, e4⟩ := parse_mkt (n := n) hw hf
  unfold vld
  rw [e1, e2, e3, e4, hw.1, hf]
  have hl : 1 ≤ w.length := by rcases hw.2 with rfl | ⟨c, t, rfl, _⟩ <;> simp
  have h4 : (decide ((w.length : Int) > 1) && ((w.getD 0 0).toNat : Int) == 48) = false := by
    rcases hw.2 with rfl | ⟨c, t, rfl, hc⟩
    · rfl
    · have : (((c :: t).getD 0 0).toNat : Int) = c.toNat := rfl
      rw [this]
      have : ((c.toNat : Int) == 48) = false := by
        rw [beq_eq_false_iff_ne]; intro e
        exact hc (UInt8.toNat_inj.1 (by show c.toNat = 48; omega))
      rw [this, Bool.and_false]
  rw [h4, decide_eq_false (show ¬ ((w.length : Int) < 1) by omega), decide_eq_false (show ¬ ((w.length : Int) > 15) by omega), decide_eq_false (show ¬ ((f.length : Int) > 6) by omega)]
  have h5 : (decide (f ≠ []) && ((f.length : Int) == 0)) = false := by
    cases f with
    | nil => rfl
    | cons a t => simp; omega
  rw [h5]
  cases n <;> cases (w.all zr && f.all zr) <;> rfl
theorem vld_fin {n : Bool} {w f : List UInt8} (hw : Wh w) (hf : f.all dgt = true) (h : (fin n w f).2 = 0) : vld (fin n w f).1 = true ∧ (fin n w f).1.length ≤ 30 := by
  unfold fin at *
  split at h
  · cases h
  · rename_i h1
    rw [if_neg h1]
    split at h
    · cases h
    · rename_i h2
      rw [if_neg h2]
      refine ⟨vld_mkt hw (by omega) hf (by omega), ?_⟩
      unfold mkt
      simp only [List.length_append]
      have e1 : (if (n && !(w.all zr && f.all zr)) = true then ([45] : List UInt8) else []).length ≤ 1 := by split <;> simp
      have e2 : (if f = [] then ([] : List UInt8) else 46 :: f).length ≤ f.length + 1 := by split <;> simp
      omega

/-! ### one more -/
def inc (s : List UInt8) : List UInt8 := incK s s.length
theorem incK_snoc (l : List UInt8) (c : UInt8) : ∀ k, k ≤ l.length → incK (l ++ [c]) k = incK l k ++ [48]
  | 0, _ => by
    unfold incK
    rw [List.length_append, List.length_cons, List.length_nil, List.replicate_succ', List.cons_append]
  | k + 1, h => by
    have ih := incK_snoc l c k (by omega)
    have hg : (l ++ [c]).getD k 0 = l.getD k 0 := by
      rw [List.getD_eq_getElem?_getD, List.getD_eq_getElem?_getD, List.getElem?_append_left (by omega)]
    unfold incK
    rw [hg]
    split
    · exact ih
    · rw [List.take_append_of_le_length (by omega), List.length_append, List.length_cons, List.length_nil, List.append_assoc, List.cons_append, show l.length + (0 + 1) - (k + 1) = (l.length - (k + 1)) + 1 from by omega, List.replicate_succ']
theorem inc_nil : inc [] = [49] := rfl
theorem inc_snoc (l : List UInt8) (c : UInt8) : inc (l ++ [c]) = if c = 57 then inc l ++ [48] else l ++ [c + 1] := by
  have hg : (l ++ [c]).getD l.length 0 = c := by rw [List.getD_eq_getElem?_getD, List.getElem?_append_right (Nat.le_refl _)]; simp
  unfold inc
  rw [List.length_append, List.length_cons, List.length_nil]
  show incK (l ++ [c]) (l.length + 1) = _
  rw [incK, hg]
  split
  · exact incK_snoc l c l.length (Nat.le_refl _)
  · rw [List.take_left]; simp
theorem inc_len : ∀ s : List UInt8, (inc s).length ≤ s.length + 1 := by
  intro s
  have key : ∀ k, k ≤ s.length → (incK s k).length ≤ s.length + 1 := by
    intro k
    induction k with
    | zero => intro _; simp [incK]
    | succ k ih =>
      intro hk
      unfold incK
      split
      · exact ih (by omega)
      · simp only [List.length_append, List.length_take, List.length_cons, List.length_replicate]; omega
  exact key _ (Nat.le_refl _)
theorem dec_inc {N : Nat} {s : List UInt8} (h : s.length ≤ 1000) : decimal_increased N s = some (inc s) := by
  unfold decimal_increased incs
  rw [if_pos (by unfold LIMS; omega)]
  rfl
theorem ref_inc : ∀ (n : Nat) (N : Nat) (s : List UInt8), s.length = n → n ≤ 1000 → n < N → calqueref07_increased N s = some (inc s) := by
  intro n
  induction n with
  | zero =>
    intro N s hs _ hN
    obtain ⟨N, rfl⟩ : ∃ M, N = M + 1 := ⟨N - 1, by omega⟩
    have : s = [] := List.eq_nil_of_length_eq_zero hs
    subst this
    rfl
  | succ n ih =>
    intro N s hs hn hN
    obtain ⟨N, rfl⟩ : ∃ M, N = M + 1 := ⟨N - 1, by omega⟩
    have hne : s ≠ [] := fun e => by rw [e] at hs; simp at hs
    obtain ⟨l, c, rfl⟩ : ∃ l c, s = l ++ [c] := ⟨s.dropLast, s.getLast hne, (List.dropLast_concat_getLast hne).symm⟩
    have hl : l.length = n := by simpa using hs
    rw [calqueref07_increased.eq_2]
    have hbeq : ((l ++ [c] : List UInt8) == []) = false := by cases l <;> rfl
    rw [hbeq, cond_false]
    have hw : IntKind.wrap .i64 (((l ++ [c]).length : Int) - 1) = (l.length : Int) := by
      rw [wrap_id (by simp only [List.length_append, List.length_cons, List.length_nil]; omega) (by simp only [List.length_append, List.length_cons, List.length_nil]; omega)]
      simp only [List.length_append, List.length_cons, List.length_nil]; omega
    rw [hw, idx_some (show (l ++ [c])[l.length]? = some c by simp), Option.bind_some, slc_take (by simp), Option.bind_some, List.take_left, inc_snoc]
    by_cases hc : c = 57
    · subst hc
      rw [show (((57 : UInt8).toNat : Int) == 57) = true from rfl, cond_true, ih N l hl (by omega) (by omega), Option.bind_some, cat_some (by have := inc_len l; simp only [List.length_cons, List.length_nil]; omega), if_pos rfl]
      rfl
    · have : ((c.toNat : Int) == 57) = false := by
        rw [beq_eq_false_iff_ne]; intro e
        exact hc (UInt8.toNat_inj.1 (by show c.toNat = 57; omega))
      rw [this, cond_false, if_neg hc, Option.bind_some]
      have hb : bytesOf [IntKind.wrap .u8 ((c.toNat : Int) + 1)] = [c + 1] := by
        rw [u8_inc]
        exact bytesOf_toNat [c + 1]
      rw [hb, cat_some (by simp only [List.length_cons, List.length_nil]; omega)]
      rfl
theorem dgt_succ {c : UInt8} (h : dgt c = true) (h9 : c ≠ 57) : dgt (c + 1) = true ∧ c + 1 ≠ 48 := by
  have key : ∀ n, n < 256 → dgt (UInt8.ofNat n) = true → UInt8.ofNat n ≠ 57 → dgt (UInt8.ofNat n + 1) = true ∧ UInt8.ofNat n + 1 ≠ 48 := by decide +kernel
  have := key c.toNat c.toNat_lt
  simp only [UInt8.ofNat_toNat] at this
  exact this h h9
theorem inc_Wh : ∀ {w : List UInt8}, Wh w → Wh (inc w) := by
  have key : ∀ (n : Nat) (w : List UInt8), w.length = n → w.all dgt = true → (inc w).all dgt = true ∧ (w = [] ∨ w = [48] ∨ (∃ c t, w = c :: t ∧ c ≠ 48) → ∃ c t, inc w = c :: t ∧ c ≠ 48) := by
    intro n
    induction n with
    | zero =>
      intro w hw _
      have : w = [] := List.eq_nil_of_length_eq_zero hw
      subst this
      exact ⟨by decide, fun _ => ⟨49, [], rfl, by decide⟩⟩
    | succ n ih =>
      intro w hw hd
      have hne : w ≠ [] := fun e => by rw [e] at hw; simp at hw
      obtain ⟨l, c, rfl⟩ : ∃ l c, w = l ++ [c] := ⟨w.dropLast, w.getLast hne, (List.dropLast_concat_getLast hne).symm⟩
      have hl : l.length = n := by simpa using hw
      rw [List.all_append, Bool.and_eq_true] at hd
      obtain ⟨i1, i2⟩ := ih l hl hd.1
      have hcd : dgt c = true := by simpa using hd.2
      rw [inc_snoc]
      by_cases hc : c = 57
      · rw [if_pos hc]
        refine ⟨by rw [List.all_append, i1]; decide, fun h => ?_⟩
        have hl3 : l = [] ∨ l = [48] ∨ ∃ c t, l = c :: t ∧ c ≠ 48 := by
          cases l with
          | nil => exact .inl rfl
          | cons a r =>
            right; right
            rcases h with h | h | ⟨c', t', h, h'⟩
            · cases h
            · simp at h
            · rw [List.cons_append] at h
              cases h
              exact ⟨_, _, rfl, h'⟩
        obtain ⟨a, r, e, ha⟩ := i2 hl3
        exact ⟨a, r ++ [48], by rw [e]; rfl, ha⟩
      · rw [if_neg hc]
        obtain ⟨g1, g2⟩ := dgt_succ hcd hc
        refine ⟨by rw [List.all_append, hd.1]; simp [g1], fun h => ?_⟩
        cases l with
        | nil => exact ⟨c + 1, [], rfl, g2⟩
        | cons a r =>
          rcases h with h | h | ⟨c', t', h, h'⟩
          · cases h
          · simp at h
          · rw [List.cons_append] at h
            cases h
            exact ⟨_, _, rfl, h'⟩
  intro w h
  obtain ⟨k1, k2⟩ := key w.length w rfl h.1
  exact ⟨k1, .inr (k2 (.inr h.2))⟩
theorem zeros_eq {N : Nat} {z : Int} (hz : z ≤ 1000) (hN : 3000 ≤ N) : calqueref07_zeros N z = some (List.replicate z.toNat 48) := by
  have key : ∀ j (k : Nat) N, k + j = z.toNat → j < N → iter (fun s => calqueref07_zeros_b1 N z s.1 s.2) N (List.replicate k 48, (k : Int)) = some (List.replicate z.toNat 48) := by
    suffices h : ∀ N0 j (k : Nat) N, k + j = z.toNat → j < N → iter (fun s => calqueref07_zeros_b1 N0 z s.1 s.2) N (List.replicate k 48, (k : Int)) = some (List.replicate z.toNat 48) from fun j k N => h N j k N
    intro N0 j
    induction j with
    | zero =>
      intro k N hk hN
      obtain ⟨N, rfl⟩ : ∃ M, N = M + 1 := ⟨N - 1, by omega⟩
      rw [iter]
      unfold calqueref07_zeros_b1
      simp only [show decide ((k : Int) < z) = false from decide_eq_false (by omega), cond_false]
      rw [show k = z.toNat from by omega]
    | succ j ih =>
      intro k N hk hN
      obtain ⟨N, rfl⟩ : ∃ M, N = M + 1 := ⟨N - 1, by omega⟩
      rw [iter]
      unfold calqueref07_zeros_b1
      simp only [show decide ((k : Int) < z) = true from decide_eq_true (by omega), cond_true]
      rw [cat_some (by simp only [List.length_replicate, List.length_cons, List.length_nil]; omega)]
      simp only [Option.bind_some]
      rw [← List.replicate_succ', show ((k : Int) + 1) = ((k + 1 : Nat) : Int) from rfl]
      have := ih (k + 1) N (by omega) (by omega)
      unfold calqueref07_zeros_b1 at this
      exact this
  unfold calqueref07_zeros
  have := key z.toNat 0 N (by omega) (by omega)
  rw [show (iter (fun s => calqueref07_zeros_b1 N z s.1 s.2) N ([], 0)) = _ from this]
  rfl
theorem repeat_eq {N : Nat} {k : Nat} (hk : k ≤ 1000) : strings_Repeat N [48] (k : Int) = some (List.replicate k 48) := by
  unfold strings_Repeat
  rw [if_pos ⟨by omega, by omega, by simp only [List.length_cons, List.length_nil]; omega⟩]
  congr 1
  simp only [Int.toNat_natCast]
  induction k with
  | zero => rfl
  | succ k ih => rw [Lib.repeatL, ih (by omega), List.replicate_succ]; rfl

/-! ### rounding to an integer, two places to the right -/
def rw0 (s : List UInt8) : List UInt8 := if pt s = true ∧ 53 ≤ ((fr s).getD 0 0).toNat then inc (wh s) else wh s
def rnd (s : List UInt8) : List UInt8 × Int := fin (neg s) (rw0 s) []
theorem rw0_Wh {s : List UInt8} (h : vld s = true) : Wh (rw0 s) := by
  unfold rw0; split
  · exact inc_Wh (vld_parts h).1
  · exact (vld_parts h).1
theorem rw0_len {s : List UInt8} (h : vld s = true) : (rw0 s).length ≤ 16 := by
  have h1 := (vld_parts h).2.1
  have h2 := inc_len (wh s)
  unfold rw0; split <;> omega
theorem Wh_ne {w : List UInt8} (h : Wh w) : w ≠ [] := by rcases h.2 with rfl | ⟨c, t, rfl, _⟩ <;> simp

theorem prog_Round {N : Nat} {s : List UInt8} (hs : s.length ≤ 1000) (h : vld s = true) : decimal_Round N s 0 = some (rnd s) := by
  obtain ⟨p1, p2, p3, p4, p5⟩ := vld_parts h
  have hrl := rw0_len h
  unfold decimal_Round rnd
  rw [decimal_split_eq hs, h]
  simp only [Option.bind_some, Bool.not_true, cond_false, show decide ((0 : Int) < 0) = false from rfl, show decide ((0 : Int) > 6) = false from rfl]
  cases hp : pt s with
  | false =>
    have hf : fr s = [] := by unfold fr; rw [if_neg (by rw [hp]; simp)]
    have hr0 : rw0 s = wh s := by unfold rw0; rw [hp]; simp
    rw [hf]
    simp only [List.length_nil, show decide ((0 : Int) ≥ ((0 : Nat) : Int)) = true from rfl, cond_true]
    rw [show IntKind.wrap .i64 ((0 : Int) - ((0 : Nat) : Int)) = ((0 : Nat) : Int) from rfl, repeat_eq (by omega)]
    simp only [Option.bind_some]
    rw [show cat [] (List.replicate 0 48) = some [] from rfl]
    simp only [Option.bind_some]
    rw [permitted_eq (by omega) (by simp), hr0]
    rfl
  | true =>
    have hne := p5 hp
    cases hf : fr s with
    | nil => exact absurd hf hne
    | cons c t =>
      simp only [List.length_cons, show decide ((0 : Int) ≥ ((t.length + 1 : Nat) : Int)) = false from decide_eq_false (by omega), cond_false]
      rw [show slc (c :: t) 0 0 = some [] from slc_take (b := 0) (by simp)]
      simp only [Option.bind_some]
      rw [cat_some (by simp only [List.length_nil]; omega), List.append_nil]
      simp only [Option.bind_some, show idx (c :: t) 0 = some c from rfl]
      have ho : (bif decide ((c.toNat : Int) ≥ 53) then (decimal_increased N (wh s)).bind fun r37 => some r37 else some (wh s)) = some (rw0 s) := by
        unfold rw0
        rw [hp, hf]
        by_cases h5 : 53 ≤ c.toNat
        · rw [decide_eq_true (show (c.toNat : Int) ≥ 53 by omega), if_pos ⟨rfl, h5⟩, dec_inc (by omega)]; rfl
        · rw [decide_eq_false (show ¬ (c.toNat : Int) ≥ 53 by omega), if_neg (fun x => h5 x.2)]; rfl
      rw [ho]
      simp only [Option.bind_some]
      generalize rw0 s = v at *
      rw [show IntKind.wrap .i64 ((v.length : Int) - 0) = (v.length : Int) from by rw [wrap_id (by omega) (by omega)]; omega, slc_take (Nat.le_refl _)]
      simp only [Option.bind_some]
      rw [slc_drop (Nat.le_refl _)]
      simp only [Option.bind_some, List.take_length, List.drop_length]
      rw [permitted_eq (by omega) (by simp)]
      rfl
theorem ref_Round {N : Nat} {s : List UInt8} (hs : s.length ≤ 1000) (h : vld s = true) (hN : 3000 ≤ N) : calqueref07_Round N s 0 = some (rnd s) := by
  obtain ⟨p1, p2, p3, p4, p5⟩ := vld_parts h
  have hrl := rw0_len h
  have hrw := rw0_Wh h
  unfold calqueref07_Round rnd
  rw [ref_split_eq hs hN, h]
  simp only [Option.bind_some, Bool.not_true, cond_false, show decide ((0 : Int) < 0) = false from rfl, show decide ((0 : Int) > 6) = false from rfl, if_true]
  cases hp : pt s with
  | false =>
    have hf : fr s = [] := by unfold fr; rw [if_neg (by rw [hp]; simp)]
    have hr0 : rw0 s = wh s := by unfold rw0; rw [hp]; simp
    rw [hf]
    simp only [List.length_nil, show decide (((0 : Nat) : Int) ≤ 0) = true from rfl, cond_true]
    rw [show IntKind.wrap .i64 ((0 : Int) - ((0 : Nat) : Int)) = 0 from rfl, zeros_eq (by omega) hN]
    simp only [Option.bind_some]
    rw [show cat [] (List.replicate (Int.toNat 0) 48) = some [] from rfl]
    simp only [Option.bind_some]
    rw [checked_eq (Wh_ne p1) (by omega) (by simp) hN, ld_Wh p1, hr0]
    rfl
  | true =>
    have hne := p5 hp
    cases hf : fr s with
    | nil => exact absurd hf hne
    | cons c t =>
      simp only [List.length_cons, show decide (((t.length + 1 : Nat) : Int) ≤ 0) = false from decide_eq_false (by omega), cond_false]
      rw [show slc (c :: t) 0 0 = some [] from slc_take (b := 0) (by simp)]
      simp only [Option.bind_some]
      rw [cat_some (by simp only [List.length_nil]; omega), List.append_nil]
      simp only [Option.bind_some, show idx (c :: t) 0 = some c from rfl]
      have ho : (bif decide ((c.toNat : Int) ≥ 53) then (calqueref07_increased N (wh s)).bind fun r37 => some r37 else some (wh s)) = some (rw0 s) := by
        unfold rw0
        rw [hp, hf]
        by_cases h5 : 53 ≤ c.toNat
        · rw [decide_eq_true (show (c.toNat : Int) ≥ 53 by omega), if_pos ⟨rfl, h5⟩, ref_inc _ N (wh s) rfl (by omega) (by omega)]; rfl
        · rw [decide_eq_false (show ¬ (c.toNat : Int) ≥ 53 by omega), if_neg (fun x => h5 x.2)]; rfl
      rw [ho]
      simp only [Option.bind_some]
      generalize rw0 s = v at *
      rw [show IntKind.wrap .i64 ((v.length : Int) - 0) = (v.length : Int) from by rw [wrap_id (by omega) (by omega)]; omega, slc_take (Nat.le_refl _)]
      simp only [Option.bind_some]
      rw [slc_drop (Nat.le_refl _)]
      simp only [Option.bind_some, List.take_length, List.drop_length]
      rw [checked_eq (Wh_ne hrw) (by omega) (by simp) hN, ld_Wh hrw]
      rfl
theorem rnd_vld {s : List UInt8} (h : vld s = true) (h0 : (rnd s).2 = 0) : vld (rnd s).1 = true ∧ (rnd s).1.length ≤ 30 := vld_fin (rw0_Wh h) rfl h0

def sw (s : List UInt8) : List UInt8 := wh s ++ (fr s ++ [48, 48]).take 2
def shf (s : List UInt8) : List UInt8 × Int := fin (neg s) (ld (sw s)) ((fr s).drop 2)
theorem sw_dgt {s : List UInt8} (h : vld s = true) : (sw s).all dgt = true := by
  obtain ⟨p1, p2, p3, p4, p5⟩ := vld_parts h
  unfold sw
  rw [List.all_append, p1.1, Bool.true_and, List.all_eq_true]
  intro c hc
  rcases List.mem_append.1 (List.mem_of_mem_take hc) with h1 | h1
  · exact List.all_eq_true.1 p3 c h1
  · simp only [List.mem_cons, List.not_mem_nil, or_false, or_self] at h1
    subst h1; decide
theorem sw_len {s : List UInt8} (h : vld s = true) : (sw s).length ≤ 17 ∧ sw s ≠ [] := by
  obtain ⟨p1, p2, p3, p4, p5⟩ := vld_parts h
  unfold sw
  refine ⟨by simp only [List.length_append, List.length_take]; omega, fun e => Wh_ne p1 ?_⟩
  exact (List.append_eq_nil_iff.1 e).1
theorem prog_Shift {N : Nat} {s : List UInt8} (hs : s.length ≤ 1000) (h : vld s = true) : decimal_Shift N s 2 = some (shf s) := by
  obtain ⟨p1, p2, p3, p4, p5⟩ := vld_parts h
  have hl := sw_len h
  have hll := ld_len (sw s)
  unfold decimal_Shift shf
  rw [decimal_split_eq hs, h]
  have e2 : max (min (2 : Int) 40) (-40) = 2 := by decide
  simp only [Option.bind_some, Bool.not_true, cond_false, e2, show decide ((2 : Int) ≥ 0) = true from rfl, cond_true]
  rw [show strings_Repeat N [48] 2 = some [48, 48] from repeat_eq (k := 2) (by omega)]
  simp only [Option.bind_some]
  rw [cat_some (by simp only [List.length_cons, List.length_nil]; omega)]
  simp only [Option.bind_some]
  rw [show slc (fr s ++ [48, 48]) 0 2 = some ((fr s ++ [48, 48]).take 2) from slc_take (b := 2) (by simp)]
  simp only [Option.bind_some]
  rw [cat_some (by simp only [List.length_take]; omega)]
  simp only [Option.bind_some]
  rw [show wh s ++ List.take 2 (fr s ++ [48, 48]) = sw s from rfl, trimmed_eq]
  simp only [Option.bind_some]
  rw [show min (2 : Int) ((fr s).length : Int) = ((min 2 (fr s).length : Nat) : Int) from by omega, slc_drop (by omega)]
  simp only [Option.bind_some]
  have e3 : (fr s).drop (min 2 (fr s).length) = (fr s).drop 2 := by
    rcases Nat.le_total 2 (fr s).length with h1 | h1
    · rw [Nat.min_eq_left h1]
    · rw [Nat.min_eq_right h1, List.drop_length, List.drop_eq_nil_of_le h1]
  rw [e3, permitted_eq (by omega) (by rw [List.length_drop]; omega)]
  rfl
theorem ref_Shift {N : Nat} {s : List UInt8} (hs : s.length ≤ 1000) (h : vld s = true) (hN : 3000 ≤ N) : calqueref07_Shift N s 2 = some (shf s) := by
  obtain ⟨p1, p2, p3, p4, p5⟩ := vld_parts h
  have hl := sw_len h
  unfold calqueref07_Shift shf
  rw [ref_split_eq hs hN, h]
  have e2 : min (2 : Int) 30 = 2 := by decide
  simp only [Option.bind_some, Bool.not_true, cond_false, e2, show decide ((2 : Int) < -6) = false from rfl, show decide ((2 : Int) > 21) = false from rfl, if_true]
  rw [show IntKind.wrap .i64 (((fr s).length : Int) - 2) = ((fr s).length : Int) - 2 from wrap_id (by omega) (by omega)]
  rw [show IntKind.wrap .i64 (-(((fr s).length : Int) - 2)) = 2 - ((fr s).length : Int) from by rw [wrap_id (by omega) (by omega)]; omega]
  rw [zeros_eq (by omega) hN]
  simp only [Option.bind_some]
  rw [cat_some (by simp only [List.length_replicate]; omega)]
  simp only [Option.bind_some]
  rw [cat_some (by simp only [List.length_append, List.length_replicate]; omega)]
  simp only [Option.bind_some]
  rw [zeros_eq (by omega) hN]
  simp only [Option.bind_some]
  rw [cat_some (by simp only [List.length_append, List.length_replicate]; omega)]
  simp only [Option.bind_some]
  have hall : List.replicate (((fr s).length : Int) - 2).toNat 48 ++ wh s ++ fr s ++ List.replicate (2 - ((fr s).length : Int)).toNat 48 = (List.replicate ((fr s).length - 2) 48 ++ sw s) ++ (fr s).drop 2 := by
    rw [show (((fr s).length : Int) - 2).toNat = (fr s).length - 2 from by omega, show (2 - ((fr s).length : Int)).toNat = 2 - (fr s).length from by omega]
    unfold sw
    rcases Nat.le_total 2 (fr s).length with h1 | h1
    · rw [show 2 - (fr s).length = 0 from by omega, List.take_append_of_le_length h1]
      simp only [List.replicate_zero, List.append_nil, List.append_assoc, List.take_append_drop]
    · rw [show (fr s).length - 2 = 0 from by omega, List.drop_eq_nil_of_le h1, List.take_append, List.take_of_length_le h1]
      have : ([48, 48] : List UInt8).take (2 - (fr s).length) = List.replicate (2 - (fr s).length) 48 := by
        rw [show ([48, 48] : List UInt8) = List.replicate 2 48 from rfl, List.take_replicate]
        congr 1
        omega
      rw [this]
      simp
  rw [hall]
  have hd : ((fr s).drop 2).length = (fr s).length - 2 := List.length_drop
  have hA : (List.replicate ((fr s).length - 2) (48 : UInt8) ++ sw s).length ≤ 30 := by simp only [List.length_append, List.length_replicate]; omega
  have hA0 : (List.replicate ((fr s).length - 2) (48 : UInt8) ++ sw s) ≠ [] := fun e => hl.2 (List.append_eq_nil_iff.1 e).2
  have hld : ld (List.replicate ((fr s).length - 2) (48 : UInt8) ++ sw s) = ld (sw s) := ld_zeros _ _
  generalize List.replicate ((fr s).length - 2) (48 : UInt8) ++ sw s = A at *
  rw [show IntKind.wrap .i64 (((A ++ (fr s).drop 2).length : Int) - max 0 (((fr s).length : Int) - 2)) = (A.length : Int) from by
    rw [wrap_id (by rw [List.length_append, hd]; omega) (by rw [List.length_append, hd]; omega), List.length_append, hd]; omega]
  rw [slc_take (by rw [List.length_append]; omega)]
  simp only [Option.bind_some]
  rw [slc_drop (by rw [List.length_append]; omega)]
  simp only [Option.bind_some, List.take_left, List.drop_left]
  rw [checked_eq hA0 (by omega) (by rw [hd]; omega) hN, hld]
  rfl
theorem shf_vld {s : List UInt8} (h : vld s = true) (h0 : (shf s).2 = 0) : vld (shf s).1 = true ∧ (shf s).1.length ≤ 30 :=
  vld_fin (Wh_ld (sw_dgt h)) (List.all_eq_true.2 fun c hc => List.all_eq_true.1 (vld_parts h).2.2.1 c (List.mem_of_mem_drop hc)) h0

/-! ### the text -/
def txt (x : Symbols) (s : List UInt8) : List UInt8 := (if neg s then x.Minus else []) ++ (grp x (wh s) ++ (if pt s then x.Decimal ++ fr s else []))
/-- Symbols as the laws admit them. -/
structure Few (x : Symbols) : Prop where
  ok : SymOk x
  d : x.Decimal.length ≤ 20
  g : x.Group.length ≤ 20
  m : x.Minus.length ≤ 20
  p : x.Percent.length ≤ 20
theorem prog_text {N : Nat} {x : Symbols} {s : List UInt8} (hx : Few x) (hs : s.length ≤ 1000) (hN : 3000 ≤ N) : number_text N x s = some (txt x s) := by
  have h1 := wh_len s
  have h2 := fr_len s
  have h3 := grp_len (x := x) (d := wh s) hx.g gsz_pos
  have hd := hx.d
  have hm := hx.m
  unfold number_text txt
  rw [prog_cut1, Option.bind_some, prog_cut2 hs, Option.bind_some]
  dsimp only
  rw [prog_Group_eq hx.ok hx.g (by omega) hN, Option.bind_some]
  cases pt s with
  | false =>
    simp only [cond_false, Option.bind_some, Bool.false_eq_true, if_false, List.append_nil]
    cases neg s with
    | false => simp
    | true => simp only [cond_true, if_true]; rw [cat_some (by omega)]; rfl
  | true =>
    simp only [cond_true, if_true]
    rw [cat_some (by omega), Option.bind_some, cat_some (by rw [List.length_append]; omega), Option.bind_some]
    cases neg s with
    | false => simp
    | true => simp only [Option.bind_some, cond_true, if_true]; rw [cat_some (by simp only [List.length_append]; omega)]; rfl
theorem ref_text {N : Nat} {x : Symbols} {s : List UInt8} (hx : Few x) (hs : s.length ≤ 1000) (h : vld s = true) (hN : 3000 ≤ N) : calqueref15_Text N x s = some (txt x s) := by
  have h1 := wh_len s
  have h2 := fr_len s
  have h3 := grp_len (x := x) (d := wh s) hx.g gsz_pos
  have hd := hx.d
  have hm := hx.m
  obtain ⟨_, _, _, _, p5⟩ := vld_parts h
  unfold calqueref15_Text txt
  rw [ref_split_eq hs hN, h]
  simp only [Option.bind_some, if_true]
  rw [ref_Group_eq hx.g (by omega) hN, Option.bind_some]
  have hfn : (fr s != []) = pt s := by
    cases hp : pt s with
    | false => unfold fr; rw [if_neg (by rw [hp]; simp)]; rfl
    | true => rw [bne_iff_ne]; exact p5 hp
  rw [hfn]
  cases pt s with
  | false =>
    simp only [cond_false, Option.bind_some, Bool.false_eq_true, if_false, List.append_nil]
    cases neg s with
    | false => simp
    | true => simp only [cond_true, if_true]; rw [cat_some (by omega)]; rfl
  | true =>
    simp only [cond_true, if_true]
    rw [cat_some (by omega), Option.bind_some, cat_some (by rw [List.length_append]; omega), Option.bind_some]
    cases neg s with
    | false => simp
    | true => simp only [Option.bind_some, cond_true, if_true]; rw [cat_some (by simp only [List.length_append]; omega)]; rfl
theorem txt_len {x : Symbols} {s : List UInt8} (hx : Few x) : (txt x s).length ≤ 24 * s.length + 60 := by
  have h1 := wh_len s
  have h2 := fr_len s
  have h3 := grp_len (x := x) (d := wh s) hx.g gsz_pos
  have hd := hx.d
  have hm := hx.m
  unfold txt
  simp only [List.length_append]
  have e1 : (if neg s = true then x.Minus else []).length ≤ 20 := by split; exact hm; simp
  have e2 : (if pt s = true then x.Decimal ++ fr s else []).length ≤ 20 + s.length := by split; rw [List.length_append]; omega; simp
  omega
end Go.Proofs.YthecjdgffboedaaDoor
