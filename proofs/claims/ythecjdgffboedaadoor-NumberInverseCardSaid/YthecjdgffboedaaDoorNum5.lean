/- Numbers: Parse: the program's and the reference's are one function; the law on parsing. -/
import Derived.Test.YthecjdgffboedaaDoorNum4
import Derived.Test.YthecjdgffboedaaDoorExt15e
namespace Go.Proofs.YthecjdgffboedaaDoor
open Go.X

/-! ### without -/
/-- A string without the occurrences of g (k bytes are still left out). -/
def wos (g : List UInt8) : Nat → List UInt8 → List UInt8
  | _, [] => []
  | k + 1, _ :: l => wos g k l
  | 0, b :: l => if g.isPrefixOf (b :: l) then wos g (g.length - 1) l else b :: wos g 0 l
theorem wos_skip (g : List UInt8) : ∀ k s, wos g k s = wos g 0 (s.drop k)
  | 0, _ => rfl
  | k + 1, [] => rfl
  | k + 1, b :: l => by rw [wos, wos_skip g k l]; rfl
theorem wos_cons {g : List UInt8} (hg : g ≠ []) (b : UInt8) (l : List UInt8) : wos g 0 (b :: l) = if g.isPrefixOf (b :: l) then wos g 0 ((b :: l).drop g.length) else b :: wos g 0 l := by
  rw [wos]
  split
  · rw [wos_skip]
    cases g with
    | nil => exact absurd rfl hg
    | cons a t => rfl
  · rfl
theorem wos_fnd {g : List UInt8} (hg : g ≠ []) : ∀ s, wos g 0 s = if fnd g s < s.length then s.take (fnd g s) ++ wos g 0 (s.drop (fnd g s + g.length)) else s
  | [] => rfl
  | b :: l => by
    rw [wos_cons hg, fnd_cons]
    split
    · simp
    · rw [wos_fnd hg l]
      simp only [List.length_cons]
      by_cases h : fnd g l < l.length
      · rw [if_pos h, if_pos (by omega), show fnd g l + 1 + g.length = (fnd g l + g.length) + 1 by omega]
        rfl
      · rw [if_neg h, if_neg (by omega)]
theorem wos_len (g : List UInt8) : ∀ k s, (wos g k s).length ≤ s.length
  | _, [] => by simp [wos]
  | k + 1, _ :: l => by rw [wos]; have := wos_len g k l; simp only [List.length_cons]; omega
  | 0, b :: l => by
    rw [wos]
    split
    · have := wos_len g (g.length - 1) l; simp only [List.length_cons]; omega
    · have := wos_len g 0 l; simp only [List.length_cons]; omega
theorem replaceK_wos {g : List UInt8} (hg : g ≠ []) : ∀ f s, s.length < f → Lib.replaceK g [] (Lib.countFrom g f s) s = wos g 0 s
  | 0, s, h => absurd h (Nat.not_lt_zero _)
  | f + 1, s, h => by
    have hgl : 1 ≤ g.length := by cases g with | nil => exact absurd rfl hg | cons a t => simp
    rw [Lib.countFrom, index_fnd hg, wos_fnd hg]
    by_cases h1 : fnd g s < s.length
    · rw [if_pos h1, if_pos h1, if_neg (by rw [beq_iff_eq]; omega), Nat.add_comm, Lib.replaceK_hit g [] _ s (fnd g s) (by rw [index_fnd hg, if_pos h1])]
      simp only [Int.toNat_natCast, List.append_nil]
      rw [replaceK_wos hg f _ (by rw [List.length_drop]; omega)]
    · rw [if_neg h1, if_neg h1]
      rfl
theorem replaceAll_wos {g : List UInt8} (hg : g ≠ []) (s : List UInt8) : Lib.replaceAll s g [] = wos g 0 s := by
  unfold Lib.replaceAll Lib.replace Lib.replaceNum
  rw [if_neg (by rw [beq_iff_eq]; exact hg), if_pos (.inl (by decide))]
  exact replaceK_wos hg _ s (Nat.lt_succ_self _)
theorem begins_eq {N : Nat} {s t : List UInt8} : calqueref15_begins N s t = some (t.isPrefixOf s) := by
  unfold calqueref15_begins
  by_cases h : t.length ≤ s.length
  · rw [decide_eq_true (show (s.length : Int) ≥ (t.length : Int) by omega), cond_true, slc_take h, Option.bind_some]
    congr 1
    rw [Bool.eq_iff_iff, beq_iff_eq, List.isPrefixOf_iff_prefix, List.prefix_iff_eq_take]
    exact eq_comm
  · rw [decide_eq_false (show ¬ (s.length : Int) ≥ (t.length : Int) by omega), cond_false]
    congr 1
    symm
    rw [Bool.eq_false_iff]
    intro e
    have := (List.isPrefixOf_iff_prefix.1 e).length_le
    omega
theorem without_eq {N : Nat} {s g : List UInt8} (hs : s.length ≤ 1000) (hN : 3000 ≤ N) : calqueref15_without N s g = some (if g = [] then s else wos g 0 s) := by
  have key : ∀ N0 n (s out : List UInt8) N, s.length ≤ n → n < N → out.length + s.length ≤ 1000 → iter (fun t => calqueref15_without_b1 N0 g t.1 t.2) N (s, out) = some (out ++ if g = [] then s else wos g 0 s) := by
    intro N0 n
    induction n with
    | zero =>
      intro s out N hn hN hb
      obtain ⟨N, rfl⟩ : ∃ M, N = M + 1 := ⟨N - 1, by omega⟩
      have : s = [] := List.eq_nil_of_length_eq_zero (by omega)
      subst this
      rw [iter]
      unfold calqueref15_without_b1
      simp [wos]
    | succ n ih =>
      intro s out N hn hN hb
      obtain ⟨N, rfl⟩ : ∃ M, N = M + 1 := ⟨N - 1, by omega⟩
      cases s with
      | nil =>
        rw [iter]
        unfold calqueref15_without_b1
        simp [wos]
      | cons b l =>
        simp only [List.length_cons] at hn hb
        have e1 : slc (b :: l) 0 1 = some [b] := by
          have := slc_take (xs := b :: l) (b := 1) (by simp)
          rw [show ((1 : Nat) : Int) = 1 from rfl] at this
          rw [this]; rfl
        have e2 : slc (b :: l) 1 ((b :: l).length : Int) = some l := by
          have := slc_drop (xs := b :: l) (a := 1) (by simp)
          rw [show ((1 : Nat) : Int) = 1 from rfl] at this
          rw [this]; rfl
        have e3 : cat out [b] = some (out ++ [b]) := cat_some (by simp only [List.length_cons, List.length_nil]; omega)
        have hbody : calqueref15_without_b1 N0 g (b :: l) out = some (.inl (if !(g == []) && g.isPrefixOf (b :: l) then ((b :: l).drop g.length, out) else (l, out ++ [b]))) := by
          unfold calqueref15_without_b1
          simp only [show ((b :: l : List UInt8) != []) = true from rfl, cond_true]
          cases hg : (g == []) with
          | true =>
            simp only [bne, hg, Bool.not_true, cond_false, e1, e2, e3, Option.bind_some, Bool.false_and, Bool.false_eq_true, if_false]
          | false =>
            simp only [bne, hg, Bool.not_false, cond_true, begins_eq, Option.bind_some, Bool.true_and]
            cases hp : g.isPrefixOf (b :: l) with
            | true =>
              simp only [cond_true, if_true]
              rw [slc_drop (List.isPrefixOf_iff_prefix.1 hp).length_le]
              rfl
            | false => simp only [cond_false, e1, e2, e3, Option.bind_some, Bool.false_eq_true, if_false]
        rw [iter]
        simp only [hbody]
        by_cases hg : g = []
        · subst hg
          have := ih l (out ++ [b]) N (by omega) (by omega) (by simp only [List.length_append, List.length_cons, List.length_nil]; omega)
          rw [if_pos rfl] at this ⊢
          simp only [beq_self_eq_true, Bool.not_true, Bool.false_and, Bool.false_eq_true, if_false]
          rw [this]
          simp
        · rw [if_neg hg, wos_cons hg]
          have hb0 : (g == []) = false := by rw [beq_nil]; exact decide_eq_false hg
          simp only [hb0, Bool.not_false, Bool.true_and]
          cases hp : g.isPrefixOf (b :: l) with
          | true =>
            have hle := (List.isPrefixOf_iff_prefix.1 hp).length_le
            have hgl : 1 ≤ g.length := by cases g with | nil => exact absurd rfl hg | cons a t => simp
            simp only [if_true]
            have := ih ((b :: l).drop g.length) out N (by rw [List.length_drop, List.length_cons]; omega) (by omega) (by rw [List.length_drop, List.length_cons]; omega)
            rw [if_neg hg] at this
            exact this
          | false =>
            simp only [Bool.false_eq_true, if_false]
            have := ih l (out ++ [b]) N (by omega) (by omega) (by simp only [List.length_append, List.length_cons, List.length_nil]; omega)
            rw [if_neg hg] at this
            rw [this]
            simp
  unfold calqueref15_without
  rw [key N s.length s [] N (Nat.le_refl _) (by omega) (by simp only [List.length_nil]; omega)]
  rfl

/-! ### Parse -/
def sgn (x : Symbols) (s : List UInt8) : Bool := !(x.Minus == []) && x.Minus.isPrefixOf s
def rst (x : Symbols) (s : List UInt8) : List UInt8 := if sgn x s then s.drop x.Minus.length else s
def wpt (x : Symbols) (r : List UInt8) : List UInt8 := if x.Group = [] then r.take (fnd x.Decimal r) else wos x.Group 0 (r.take (fnd x.Decimal r))
def num (x : Symbols) (s : List UInt8) : List UInt8 :=
  (if sgn x s then [45] else []) ++ wpt x (rst x s) ++ if fnd x.Decimal (rst x s) < (rst x s).length then 46 :: (rst x s).drop (fnd x.Decimal (rst x s) + x.Decimal.length) else []
def prs (x : Symbols) (s : List UInt8) : List UInt8 × Int := if x.Decimal = [] then ([], 18) else if vld (num x s) = true ∧ txt x (num x s) = s then (num x s, 0) else ([], 3)
theorem wpt_len (x : Symbols) (r : List UInt8) : (wpt x r).length ≤ r.length := by
  unfold wpt
  split
  · rw [List.length_take]; omega
  · have := wos_len x.Group 0 (r.take (fnd x.Decimal r)); rw [List.length_take] at this; omega
theorem rst_len (x : Symbols) (s : List UInt8) : (rst x s).length ≤ s.length := by unfold rst; split; rw [List.length_drop]; omega; omega
theorem num_len (x : Symbols) (s : List UInt8) : (num x s).length ≤ 2 * s.length + 2 := by
  have h1 := wpt_len x (rst x s)
  have h2 := rst_len x s
  unfold num
  simp only [List.length_append]
  have e1 : (if sgn x s = true then ([45] : List UInt8) else []).length ≤ 1 := by split <;> simp
  have e2 : (if fnd x.Decimal (rst x s) < (rst x s).length then (46 : UInt8) :: (rst x s).drop (fnd x.Decimal (rst x s) + x.Decimal.length) else []).length ≤ (rst x s).length + 1 := by
    split
    · rw [List.length_cons, List.length_drop]; omega
    · simp
  omega

section
variable {N : Nat} {x : Symbols}
/-- The end of both: the number is valid, and its text is the string. -/
theorem prog_end (hx : Few x) {n s : List UInt8} (hn : n.length ≤ 1000) (hN : 3000 ≤ N) : ((decimal_Valid N n).bind fun r59 => bif !r59 then some ([], 3) else (number_text N x n).bind fun r62 => bif r62 != s then some ([], 3) else some (n, 0)) = some (if vld n = true ∧ txt x n = s then (n, 0) else (([] : List UInt8), (3 : Int))) := by
  rw [decimal_Valid_eq hn]
  cases hv : vld n with
  | false => simp
  | true =>
    simp only [Option.bind_some, Bool.not_true, cond_false]
    rw [prog_text hx hn hN]
    simp only [Option.bind_some, true_and]
    by_cases h : txt x n = s
    · rw [if_pos h, h]; simp
    · rw [if_neg h, show (txt x n != s) = true from by rw [bne_iff_ne]; exact h, cond_true]
theorem ref_end (hx : Few x) {n s : List UInt8} (hn : n.length ≤ 1000) (hN : 3000 ≤ N) : ((calqueref07_Valid N n).bind fun r59 => bif !r59 then some ([], 3) else (calqueref15_Text N x n).bind fun r62 => bif r62 != s then some ([], 3) else some (n, 0)) = some (if vld n = true ∧ txt x n = s then (n, 0) else (([] : List UInt8), (3 : Int))) := by
  rw [ref_Valid_eq hn hN]
  cases hv : vld n with
  | false => simp
  | true =>
    simp only [Option.bind_some, Bool.not_true, cond_false]
    rw [ref_text hx hn hv hN]
    simp only [Option.bind_some, true_and]
    by_cases h : txt x n = s
    · rw [if_pos h, h]; simp
    · rw [if_neg h, show (txt x n != s) = true from by rw [bne_iff_ne]; exact h, cond_true]

theorem prog_cutD {r : List UInt8} (hd : x.Decimal ≠ []) (hr : r.length ≤ 1000) : strings_Cut N r x.Decimal = some (r.take (fnd x.Decimal r), (if fnd x.Decimal r < r.length then r.drop (fnd x.Decimal r + x.Decimal.length) else []), decide (fnd x.Decimal r < r.length)) := by
  unfold strings_Cut
  rw [if_pos (by omega), cut_fnd hd]
  by_cases h : fnd x.Decimal r < r.length
  · simp [h]
  · have := scan_le (fun l => x.Decimal.isPrefixOf l) r
    have e : fnd x.Decimal r = r.length := by unfold fnd at h ⊢; omega
    simp [e]
theorem prog_whole {r : List UInt8} (hr : r.length ≤ 1000) : (bif x.Group != [] then (strings_ReplaceAll N (r.take (fnd x.Decimal r)) x.Group []).bind fun r45 => some r45 else some (r.take (fnd x.Decimal r))) = some (wpt x r) := by
  unfold wpt
  by_cases hg : x.Group = []
  · rw [if_pos hg, hg]; rfl
  · have hgl : 1 ≤ x.Group.length := by cases h : x.Group with | nil => exact absurd h hg | cons a t => simp
    have hl := wos_len x.Group 0 (r.take (fnd x.Decimal r))
    rw [if_neg hg, show (x.Group != []) = true from by rw [bne_iff_ne]; exact hg, cond_true]
    unfold strings_ReplaceAll
    rw [replaceAll_wos hg]
    rw [List.length_take] at hl ⊢
    rw [if_pos ⟨by omega, hgl, by simp only [List.length_nil]; omega, by unfold LIMS; omega⟩]
    rfl
theorem prog_num {sg : Bool} {r : List UInt8} (hr : r.length ≤ 400) (hd : x.Decimal ≠ []) :
    ((strings_Cut N r x.Decimal).bind fun r38 => (bif x.Group != [] then (strings_ReplaceAll N r38.1 x.Group []).bind fun r45 => some r45 else some r38.1).bind fun o42 =>
      (cat (if sg then [45] else []) o42).bind fun s49 => (bif r38.2.2 then (cat [46] r38.2.1).bind fun s54 => (cat s49 s54).bind fun s56 => some s56 else some s49)) =
    some ((if sg then [45] else []) ++ wpt x r ++ if fnd x.Decimal r < r.length then 46 :: r.drop (fnd x.Decimal r + x.Decimal.length) else []) := by
  have hl := wpt_len x r
  have e1 : (if sg = true then ([45] : List UInt8) else []).length ≤ 1 := by split <;> simp
  rw [prog_cutD hd (by omega)]
  simp only [Option.bind_some]
  rw [prog_whole (by omega)]
  simp only [Option.bind_some]
  rw [cat_some (by omega)]
  simp only [Option.bind_some]
  by_cases h : fnd x.Decimal r < r.length
  · rw [if_pos h, decide_eq_true h, cond_true, if_pos h, cat_some (by rw [List.length_drop]; simp only [List.length_cons, List.length_nil]; omega), Option.bind_some, cat_some (by simp only [List.length_append, List.length_cons, List.length_nil, List.length_drop]; omega)]
    rfl
  · rw [decide_eq_false h, cond_false, if_neg h, List.append_nil]

theorem bind_assoc' {α β γ : Type} (o : Option α) (f : α → Option β) (g : β → Option γ) : (o.bind f).bind g = o.bind fun a => (f a).bind g := by cases o <;> rfl

theorem prog_Parse {l : Locale} (hl : l.Symbols = x) (hx : Few x) {s : List UInt8} (hs : s.length ≤ 400) (hN : 3000 ≤ N) : number_Parse N l s = some (prs x s) := by
  have hnl := num_len x s
  unfold number_Parse prs
  rw [hl, dec_nil]
  by_cases hd : x.Decimal = []
  · rw [decide_eq_true hd, if_pos hd]; rfl
  rw [decide_eq_false hd, if_neg hd, cond_false]
  have hend := prog_end (N := N) hx (n := num x s) (s := s) (by omega) hN
  by_cases hm : x.Minus = []
  · have hsg : sgn x s = false := by unfold sgn; rw [hm]; rfl
    rw [show (x.Minus != []) = false from by rw [hm]; rfl, cond_false]
    have hr : rst x s = s := by unfold rst; rw [hsg]; rfl
    have hn := prog_num (N := N) (x := x) (sg := false) (r := s) (by omega) hd
    have hnum : num x s = (if false = true then [45] else []) ++ wpt x s ++ if fnd x.Decimal s < s.length then 46 :: s.drop (fnd x.Decimal s + x.Decimal.length) else [] := by unfold num; rw [hsg, hr]
    rw [← hnum] at hn
    have := congrArg (fun o : Option (List UInt8) => o.bind fun n => (decimal_Valid N n).bind fun r59 => bif !r59 then some (([] : List UInt8), (3 : Int)) else (number_text N x n).bind fun r62 => bif r62 != s then some ([], 3) else some (n, 0)) hn
    simp only [Option.bind_some, hend, bind_assoc'] at this
    exact this
  · rw [show (x.Minus != []) = true from by rw [bne_iff_ne]; exact hm, cond_true]
    have hp : strings_HasPrefix N s x.Minus = some (sgn x s) := by
      unfold strings_HasPrefix sgn
      rw [beq_nil, decide_eq_false hm]; rfl
    rw [hp]
    simp only [Option.bind_some]
    have ho : (bif sgn x s then (slc s (x.Minus.length : Int) (s.length : Int)).bind fun s34 => some (s34, ([45] : List UInt8)) else some (s, [])) = some (rst x s, if sgn x s then [45] else []) := by
      unfold rst
      cases hsg : sgn x s with
      | false => rfl
      | true =>
        have : x.Minus.length ≤ s.length := by
          unfold sgn at hsg
          rw [Bool.and_eq_true] at hsg
          exact (List.isPrefixOf_iff_prefix.1 hsg.2).length_le
        rw [cond_true, slc_drop this]
        rfl
    rw [ho]
    simp only [Option.bind_some]
    have hrl := rst_len x s
    have hn := prog_num (N := N) (x := x) (sg := sgn x s) (r := rst x s) (by omega) hd
    rw [show (if sgn x s = true then ([45] : List UInt8) else []) ++ wpt x (rst x s) ++ (if fnd x.Decimal (rst x s) < (rst x s).length then 46 :: (rst x s).drop (fnd x.Decimal (rst x s) + x.Decimal.length) else []) = num x s from rfl] at hn
    have := congrArg (fun o : Option (List UInt8) => o.bind fun n => (decimal_Valid N n).bind fun r59 => bif !r59 then some (([] : List UInt8), (3 : Int)) else (number_text N x n).bind fun r62 => bif r62 != s then some ([], 3) else some (n, 0)) hn
    simp only [Option.bind_some, hend, bind_assoc'] at this
    exact this

theorem ref_num {sg : Bool} {r : List UInt8} (hx : Few x) (hr : r.length ≤ 400) (hN : 3000 ≤ N) :
    ((slc r 0 (fnd x.Decimal r : Int)).bind fun s50 => (calqueref15_without N s50 x.Group).bind fun r52 => (cat (if sg then [45] else []) r52).bind fun s55 =>
      (bif decide ((fnd x.Decimal r : Int) < (r.length : Int)) then (slc r (IntKind.wrap .i64 ((fnd x.Decimal r : Int) + (x.Decimal.length : Int))) (r.length : Int)).bind fun s60 => (cat [46] s60).bind fun s62 => (cat s55 s62).bind fun s64 => some s64 else some s55)) =
    some ((if sg then [45] else []) ++ wpt x r ++ if fnd x.Decimal r < r.length then 46 :: r.drop (fnd x.Decimal r + x.Decimal.length) else []) := by
  have hl := wpt_len x r
  have hk : fnd x.Decimal r ≤ r.length := scan_le _ r
  have hdl := hx.d
  have e1 : (if sg = true then ([45] : List UInt8) else []).length ≤ 1 := by split <;> simp
  rw [slc_take hk]
  simp only [Option.bind_some]
  rw [without_eq (by rw [List.length_take]; omega) hN]
  simp only [Option.bind_some]
  rw [show (if x.Group = [] then r.take (fnd x.Decimal r) else wos x.Group 0 (r.take (fnd x.Decimal r))) = wpt x r from rfl, cat_some (by omega)]
  simp only [Option.bind_some]
  by_cases h : fnd x.Decimal r < r.length
  · have hroom : fnd x.Decimal r + x.Decimal.length ≤ r.length := by
      have key : ∀ t : List UInt8, fnd x.Decimal t < t.length → fnd x.Decimal t + x.Decimal.length ≤ t.length := by
        intro t
        induction t with
        | nil => intro h; exact absurd h (Nat.not_lt_zero _)
        | cons b t ih =>
          intro h
          rw [fnd_cons] at h ⊢
          split at h
          · rename_i hp
            rw [if_pos hp]
            have := (List.isPrefixOf_iff_prefix.1 hp).length_le
            omega
          · rename_i hp
            rw [if_neg hp]
            have := ih (by simp only [List.length_cons] at h; omega)
            simp only [List.length_cons]; omega
      exact key r h
    rw [decide_eq_true (show (fnd x.Decimal r : Int) < (r.length : Int) by omega), cond_true, if_pos h, wrap_id (by omega) (by omega), show (fnd x.Decimal r : Int) + (x.Decimal.length : Int) = ((fnd x.Decimal r + x.Decimal.length : Nat) : Int) from rfl, slc_drop hroom, Option.bind_some, cat_some (by rw [List.length_drop]; simp only [List.length_cons, List.length_nil]; omega), Option.bind_some, cat_some (by simp only [List.length_append, List.length_cons, List.length_nil, List.length_drop]; omega)]
    rfl
  · rw [decide_eq_false (show ¬ (fnd x.Decimal r : Int) < (r.length : Int) by omega), cond_false, if_neg h, List.append_nil]

theorem ref_Parse {l : Locale} (hl : l.Symbols = x) (hx : Few x) {s : List UInt8} (hs : s.length ≤ 200) (hN : 3000 ≤ N) : calqueref15_Parse N l s = some (prs x s) := by
  have hnl := num_len x s
  unfold calqueref15_Parse prs
  rw [hl, dec_nil]
  by_cases hd : x.Decimal = []
  · rw [decide_eq_true hd, if_pos hd]; rfl
  rw [decide_eq_false hd, if_neg hd, cond_false]
  have hend := ref_end (N := N) hx (n := num x s) (s := s) (by omega) hN
  have hbody : ∀ (r : List UInt8) (k : Nat), (bif decide ((k : Int) < (r.length : Int)) then (slc r (k : Int) (r.length : Int)).bind fun s44 => (calqueref15_begins N s44 x.Decimal).bind fun r46 => bif !r46 then some (Sum.inl ((k : Int) + 1)) else some (Sum.inr (k : Int)) else some (Sum.inr (k : Int))) = if k < r.length ∧ x.Decimal.isPrefixOf (r.drop k) = false then some (.inl ((k : Int) + 1) : Int ⊕ Int) else some (.inr (k : Int)) := by
    intro r k
    by_cases hk : k < r.length
    · rw [decide_eq_true (show (k : Int) < (r.length : Int) by omega), cond_true, slc_drop (by omega), Option.bind_some, begins_eq, Option.bind_some]
      cases x.Decimal.isPrefixOf (r.drop k) with
      | false => rw [if_pos ⟨hk, rfl⟩]; rfl
      | true => rw [if_neg (by simp)]; rfl
    · rw [decide_eq_false (show ¬ (k : Int) < (r.length : Int) by omega), cond_false, if_neg (fun h => hk h.1)]
  by_cases hm : x.Minus = []
  · have hsg : sgn x s = false := by unfold sgn; rw [hm]; rfl
    rw [show (x.Minus != []) = false from by rw [hm]; rfl, cond_false]
    have hr : rst x s = s := by unfold rst; rw [hsg]; rfl
    rw [iter_scan (fun t => x.Decimal.isPrefixOf t) s (fun k _ => by unfold calqueref15_Parse_b2; rw [hl]; exact hbody s k) N (by omega)]
    simp only [Option.bind_some]
    have hn := ref_num (N := N) (x := x) (sg := false) (r := s) hx (by omega) hN
    have hnum : num x s = (if false = true then [45] else []) ++ wpt x s ++ if fnd x.Decimal s < s.length then 46 :: s.drop (fnd x.Decimal s + x.Decimal.length) else [] := by unfold num; rw [hsg, hr]
    rw [← hnum] at hn
    have := congrArg (fun o : Option (List UInt8) => o.bind fun n => (calqueref07_Valid N n).bind fun r59 => bif !r59 then some (([] : List UInt8), (3 : Int)) else (calqueref15_Text N x n).bind fun r62 => bif r62 != s then some ([], 3) else some (n, 0)) hn
    simp only [Option.bind_some, hend, bind_assoc'] at this
    exact this
  · rw [show (x.Minus != []) = true from by rw [bne_iff_ne]; exact hm, cond_true, begins_eq]
    simp only [Option.bind_some]
    have hsgp : x.Minus.isPrefixOf s = sgn x s := by unfold sgn; rw [beq_nil, decide_eq_false hm]; rfl
    rw [hsgp]
    have ho : (bif sgn x s then (slc s (x.Minus.length : Int) (s.length : Int)).bind fun s34 => some (s34, ([45] : List UInt8)) else some (s, [])) = some (rst x s, if sgn x s then [45] else []) := by
      unfold rst
      cases hsg : sgn x s with
      | false => rfl
      | true =>
        have : x.Minus.length ≤ s.length := by
          unfold sgn at hsg
          rw [Bool.and_eq_true] at hsg
          exact (List.isPrefixOf_iff_prefix.1 hsg.2).length_le
        rw [cond_true, slc_drop this]
        rfl
    rw [ho]
    simp only [Option.bind_some]
    have hrl := rst_len x s
    rw [iter_scan (fun t => x.Decimal.isPrefixOf t) (rst x s) (fun k _ => by unfold calqueref15_Parse_b1; rw [hl]; exact hbody (rst x s) k) N (by omega)]
    simp only [Option.bind_some]
    have hn := ref_num (N := N) (x := x) (sg := sgn x s) (r := rst x s) hx (by omega) hN
    rw [show (if sgn x s = true then ([45] : List UInt8) else []) ++ wpt x (rst x s) ++ (if fnd x.Decimal (rst x s) < (rst x s).length then 46 :: (rst x s).drop (fnd x.Decimal (rst x s) + x.Decimal.length) else []) = num x s from rfl] at hn
    have := congrArg (fun o : Option (List UInt8) => o.bind fun n => (calqueref07_Valid N n).bind fun r59 => bif !r59 then some (([] : List UInt8), (3 : Int)) else (calqueref15_Text N x n).bind fun r62 => bif r62 != s then some ([], 3) else some (n, 0)) hn
    simp only [Option.bind_some, hend, bind_assoc'] at this
    exact this
end

theorem numberParse_pure (x : Symbols) (s : List UInt8) (hx : SymOk x) (_ : s.length ≤ LIMS) : ∃ N, calquelaw15_NumberParse N x s = some true := by
  refine ⟨0 + 3000, ?_⟩
  have ha := awake_eq 0
  have hN : 3000 ≤ 0 + 3000 := by omega
  generalize 0 + 3000 = N at *
  unfold calquelaw15_NumberParse
  rw [ha]
  simp only [Option.bind_some, Bool.not_true, cond_false]
  rcases few_eq (N := N) hx with ⟨hf, hx⟩ | hf
  case inr => rw [hf]; rfl
  rw [hf]
  simp only [Option.bind_some, Bool.not_true, cond_false]
  by_cases h1 : (s.length : Int) > 100
  · simp only [decide_eq_true h1, cond_true]
  simp only [decide_eq_false h1, cond_false]
  rw [prog_Parse rfl hx (by omega) hN, Option.bind_some, ref_Parse rfl hx (by omega) hN, Option.bind_some]
  simp only [bne_self_eq_false, cond_false]
  unfold prs
  by_cases hd : x.Decimal = []
  · rw [if_pos hd]; rfl
  rw [if_neg hd]
  by_cases hv : vld (num x s) = true ∧ txt x (num x s) = s
  · have hnl := vld_len hv.1
    rw [if_pos hv]
    simp only [show ((0 : Int) != 0) = false from rfl, cond_false]
    rw [prog_Format rfl hx (by omega) hN, Option.bind_some, fmt_nil hv.1 hd]
    simp [hv.2]
  · rw [if_neg hv]; rfl
end Go.Proofs.YthecjdgffboedaaDoor
