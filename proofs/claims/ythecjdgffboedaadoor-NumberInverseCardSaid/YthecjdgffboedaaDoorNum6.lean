/- Numbers: sound symbols; with them Parse returns every number from its text. -/
import Derived.Test.YthecjdgffboedaaDoorNum5
import Derived.Test.YthecjdgffboedaaDoorExt15i
namespace Go.Proofs.YthecjdgffboedaaDoor
open Go.X

/-! ### Sound -/
def com (a b : List UInt8) : Bool := !(a.all fun c => !(b.contains c))
def digs : List UInt8 := [48, 49, 50, 51, 52, 53, 54, 55, 56, 57]
def clash (x : Symbols) (t : List UInt8) : Bool := !(t == []) && (x.Minus.isPrefixOf t || t.isPrefixOf x.Minus)
def snd (x : Symbols) : Bool :=
  !(x.Minus == []) && (!(x.Decimal == []) && (!(com (x.Minus ++ x.Decimal ++ x.Group) digs) && (!(com x.Decimal x.Group) && (!(clash x x.Decimal) && !(clash x x.Group)))))
theorem common_eq {N : Nat} {a b : List UInt8} (ha : a.length ≤ 1000) (hb : b.length ≤ 1000) (hN : 3000 ≤ N) : calqueref15_common N a b = some (com a b) := by
  unfold calqueref15_common com
  rw [iter_all (fun c => !(b.contains c)) true a (fun k c hk => ?_) ?_ N (by omega)]
  · cases a.all (fun c => !(b.contains c)) <;> rfl
  · unfold calqueref15_common_b1; simp
  · have hlt := (List.getElem?_eq_some_iff.1 hk).1
    unfold calqueref15_common_b1
    rw [decide_eq_true (show (k : Int) < (a.length : Int) by omega), cond_true]
    rw [iter_all (fun e => e != c) true b (fun j e hj => ?_) ?_ N (by omega)]
    · have : b.all (fun e => e != c) = !(b.contains c) := by
        rw [Bool.eq_iff_iff]
        simp only [List.all_eq_true, bne_iff_ne, Bool.not_eq_true', List.contains_eq_mem, decide_eq_false_iff_not]
        exact ⟨fun h hm => h c hm rfl, fun h e he e2 => h (e2 ▸ he)⟩
      rw [this]
      cases b.contains c <;> rfl
    · unfold calqueref15_common_b2; simp
    · have hlj := (List.getElem?_eq_some_iff.1 hj).1
      unfold calqueref15_common_b2
      rw [decide_eq_true (show (j : Int) < (b.length : Int) by omega), cond_true, idx_some hk, Option.bind_some, idx_some hj, Option.bind_some]
      by_cases he : e = c
      · subst he; simp
      · have : ((c.toNat : Int) == (e.toNat : Int)) = false := by
          rw [beq_eq_false_iff_ne]; intro h
          exact he (UInt8.toNat_inj.1 (by omega))
        rw [this, cond_false, if_pos (by simp [he])]
theorem containsAny_com (s cs : List UInt8) : Lib.containsAny s cs = com s cs := by
  have h : ∀ s : List UInt8, decide (0 ≤ Lib.indexAny s cs) = com s cs := by
    intro s
    unfold com
    induction s with
    | nil => rfl
    | cons b l ih =>
      unfold Lib.indexAny
      rw [List.all_cons]
      cases hc : cs.contains b with
      | true => simp
      | false =>
        simp only [Bool.false_eq_true, if_false, Bool.not_false, Bool.true_and]
        rw [← ih]
        by_cases h1 : Lib.indexAny l cs = -1
        · rw [h1]; rfl
        · have := Lib.indexAny_ge cs l
          rw [if_neg (by rw [beq_iff_eq]; exact h1)]
          rw [decide_eq_true (show 0 ≤ Lib.indexAny l cs by omega), decide_eq_true (show 0 ≤ Lib.indexAny l cs + 1 by omega)]
  exact h s
theorem prog_any {N : Nat} {s : List UInt8} (hs : s.length ≤ 1000) : strings_ContainsAny N s [48, 49, 50, 51, 52, 53, 54, 55, 56, 57] = some (com s digs) := by
  unfold strings_ContainsAny strings_IndexAny
  rw [if_pos ⟨by decide, by decide, by omega, by decide⟩, Option.bind_some, ← containsAny_com]
  rfl
theorem bad_eq {N : Nat} {x : Symbols} {t : List UInt8} {α : Type} {p q : α} : (bif t != [] then (strings_HasPrefix N t x.Minus).bind fun r38 => bif r38 then some p else (strings_HasPrefix N x.Minus t).bind fun r41 => bif r41 then some p else some q else some q) = some (if clash x t then p else q) := by
  unfold clash strings_HasPrefix Lib.hasPrefix
  cases h : (t == []) with
  | true => rw [show (t != []) = false from by unfold bne; rw [h]; rfl]; rfl
  | false =>
    rw [show (t != []) = true from by unfold bne; rw [h]; rfl]
    simp only [cond_true, Option.bind_some, Bool.not_false, Bool.true_and]
    cases x.Minus.isPrefixOf t <;> cases t.isPrefixOf x.Minus <;> rfl
theorem prog_Sound {N : Nat} {x : Symbols} (hx : Few x) (hN : 3000 ≤ N) : number_Sound N x = some (snd x) := by
  have h1 := hx.d
  have h2 := hx.g
  have h3 := hx.m
  unfold number_Sound snd
  cases hm : (x.Minus == []) with
  | true => rfl
  | false =>
  cases hd : (x.Decimal == []) with
  | true => rfl
  | false =>
  simp only [cond_false, Bool.not_false, Bool.true_and]
  rw [cat_some (by omega), Option.bind_some, cat_some (by rw [List.length_append]; omega), Option.bind_some, prog_any (by simp only [List.length_append]; omega), Option.bind_some]
  cases hc : com (x.Minus ++ x.Decimal ++ x.Group) digs with
  | true => rfl
  | false =>
  simp only [cond_false, Bool.not_false, Bool.true_and]
  have b0 : number_Sound_b1 N x 0 = some (if clash x x.Decimal then .inr (.inr false) else .inl 1) := bad_eq (p := (.inr (.inr false) : Int ⊕ (Unit ⊕ Bool)))
  have b1 : number_Sound_b1 N x 1 = some (if clash x x.Group then .inr (.inr false) else .inl 2) := bad_eq (p := (.inr (.inr false) : Int ⊕ (Unit ⊕ Bool)))
  have b2 : number_Sound_b1 N x 2 = some (.inr (.inl ())) := rfl
  have hloop : ∀ M, iter (fun s => number_Sound_b1 N x s) (M + 3) 0 = some (if clash x x.Decimal || clash x x.Group then .inr false else .inl ()) := by
    intro M
    rw [iter]
    simp only [b0]
    cases clash x x.Decimal with
    | true => rfl
    | false =>
      simp only [Bool.false_eq_true, if_false, Bool.false_or]
      rw [iter]
      simp only [b1]
      cases clash x x.Group with
      | true => rfl
      | false =>
        simp only [Bool.false_eq_true, if_false]
        rw [iter]
        simp only [b2]
  obtain ⟨M, rfl⟩ : ∃ M, N = M + 3 := ⟨N - 3, by omega⟩
  rw [hloop M, Option.bind_some]
  have hin : ∀ N0 N, x.Decimal.length < N → iter (fun s => number_Sound_b2 N0 x s) N 0 = some (if com x.Decimal x.Group then .inr false else .inl ()) := by
    intro N0 N hN
    rw [iter_all (fun c => !(x.Group.contains c)) false x.Decimal (fun k c hk => ?_) ?_ N hN]
    · unfold com; cases x.Decimal.all (fun c => !(x.Group.contains c)) <;> rfl
    · unfold number_Sound_b2; simp
    · have hlt := (List.getElem?_eq_some_iff.1 hk).1
      unfold number_Sound_b2 strings_IndexByte
      rw [decide_eq_true (show (k : Int) < (x.Decimal.length : Int) by omega), cond_true, idx_some hk, Option.bind_some, Option.bind_some]
      have e : ((c.toNat : Int)).toNat.toUInt8 = c := by simp
      rw [e, Lib.contains_iff_indexByte]
      by_cases h : 0 ≤ Lib.indexByte x.Group c
      · rw [decide_eq_true h]; rfl
      · rw [decide_eq_false h]; rfl
  rw [hin _ (M + 3) (by omega)]
  cases clash x x.Decimal <;> cases clash x x.Group <;> cases com x.Decimal x.Group <;> rfl
theorem ref_Sound {N : Nat} {x : Symbols} (hx : Few x) (hN : 3000 ≤ N) : calqueref15_Sound N x = some (snd x) := by
  have h1 := hx.d
  have h2 := hx.g
  have h3 := hx.m
  unfold calqueref15_Sound snd
  cases hm : (x.Minus == []) with
  | true => rfl
  | false =>
  cases hd : (x.Decimal == []) with
  | true => rfl
  | false =>
  simp only [cond_false, Bool.not_false, Bool.true_and]
  rw [cat_some (by omega), Option.bind_some, cat_some (by rw [List.length_append]; omega), Option.bind_some, show ([48, 49, 50, 51, 52, 53, 54, 55, 56, 57] : List UInt8) = digs from rfl, common_eq (by simp only [List.length_append]; omega) (by decide) hN, Option.bind_some, common_eq (by omega) (by omega) hN]
  simp only [begins_eq, Option.bind_some]
  unfold clash
  rw [hd]
  cases com (x.Minus ++ x.Decimal ++ x.Group) digs <;> cases com x.Decimal x.Group <;> cases x.Minus.isPrefixOf x.Decimal <;> cases x.Decimal.isPrefixOf x.Minus <;> cases (x.Group == []) <;> cases x.Minus.isPrefixOf x.Group <;> cases x.Group.isPrefixOf x.Minus <;> rfl

/-! ### back from the text -/
structure Snd (x : Symbols) : Prop where
  m : x.Minus ≠ []
  d : x.Decimal ≠ []
  nm : ∀ c ∈ x.Minus, dgt c = false
  nd : ∀ c ∈ x.Decimal, dgt c = false
  ng : ∀ c ∈ x.Group, dgt c = false
  dg : ∀ c ∈ x.Decimal, c ∉ x.Group
theorem snd_Snd {x : Symbols} (h : snd x = true) : Snd x := by
  unfold snd at h
  simp only [Bool.and_eq_true, Bool.not_eq_true'] at h
  obtain ⟨h1, h2, h3, h4, _⟩ := h
  have hcom : ∀ a b : List UInt8, com a b = false → ∀ c ∈ a, b.contains c = false := by
    intro a b h c hc
    unfold com at h
    rw [Bool.not_eq_false', List.all_eq_true] at h
    simpa using h c hc
  have hdg : ∀ c ∈ x.Minus ++ x.Decimal ++ x.Group, dgt c = false := fun c hc => by
    rw [← contains_dgt]; exact hcom _ _ h3 c hc
  refine ⟨fun e => ?_, fun e => ?_, fun c hc => hdg c (by simp [hc]), fun c hc => hdg c (by simp [hc]), fun c hc => hdg c (by simp [hc]), fun c hc hg => ?_⟩
  · rw [e] at h1; cases h1
  · rw [e] at h2; cases h2
  · have := hcom _ _ h4 c hc
    rw [List.contains_iff_mem.2 hg] at this
    cases this

theorem gt_nil {sz : Nat} : ∀ f r out, gt sz [] f r out = r ++ out
  | 0, _, _ => rfl
  | f + 1, r, out => by
    unfold gt
    split
    · rfl
    · rw [gt_nil f]
      simp only [List.nil_append, ← List.append_assoc, List.take_append_drop]
theorem isPrefix_head {g : List UInt8} (hg : g ≠ []) {c : UInt8} {l : List UInt8} (h : c ∉ g) : g.isPrefixOf (c :: l) = false := by
  cases g with
  | nil => exact absurd rfl hg
  | cons a t =>
    have : a ≠ c := fun e => h (by simp [e])
    simp [List.isPrefixOf, this]
theorem wos_clean {g : List UInt8} (hg : g ≠ []) : ∀ (r out : List UInt8), (∀ c ∈ r, c ∉ g) → wos g 0 (r ++ out) = r ++ wos g 0 out
  | [], _, _ => rfl
  | c :: r, out, h => by
    rw [List.cons_append, wos_cons hg, isPrefix_head hg (h c (by simp))]
    simp only [Bool.false_eq_true, if_false, List.cons_append]
    rw [wos_clean hg r out fun c hc => h c (by simp [hc])]
theorem wos_self {g : List UInt8} (hg : g ≠ []) (out : List UInt8) : wos g 0 (g ++ out) = wos g 0 out := by
  cases h : g ++ out with
  | nil => simp at h; exact absurd h.1 hg
  | cons b l =>
    rw [wos_cons hg, ← h]
    have : g.isPrefixOf (g ++ out) = true := List.isPrefixOf_iff_prefix.2 ⟨out, rfl⟩
    rw [this, if_pos rfl, List.drop_left]
theorem wos_gt {sz : Nat} {g : List UInt8} (hg : g ≠ []) : ∀ f r out, (∀ c ∈ r, c ∉ g) → wos g 0 (gt sz g f r out) = r ++ wos g 0 out
  | 0, r, out, h => wos_clean hg r out h
  | f + 1, r, out, h => by
    unfold gt
    split
    · exact wos_clean hg r out h
    · rw [wos_gt hg f _ _ fun c hc => h c (List.mem_of_mem_take hc), List.append_assoc, wos_self hg, wos_clean hg _ _ fun c hc => h c (List.mem_of_mem_drop hc), ← List.append_assoc, List.take_append_drop]
theorem wos_nil (g : List UInt8) : wos g 0 [] = [] := rfl
theorem gt_mem {sz : Nat} {g : List UInt8} {c : UInt8} : ∀ f r out, c ∈ gt sz g f r out → c ∈ r ∨ c ∈ g ∨ c ∈ out
  | 0, r, out, h => by
    rcases List.mem_append.1 h with h | h
    · exact .inl h
    · exact .inr (.inr h)
  | f + 1, r, out, h => by
    unfold gt at h
    split at h
    · rcases List.mem_append.1 h with h | h
      · exact .inl h
      · exact .inr (.inr h)
    · rcases gt_mem f _ _ h with h | h | h
      · exact .inl (List.mem_of_mem_take h)
      · exact .inr (.inl h)
      · simp only [List.mem_append] at h
        rcases h with (h | h) | h
        · exact .inr (.inl h)
        · exact .inl (List.mem_of_mem_drop h)
        · exact .inr (.inr h)
theorem grp_mem {x : Symbols} {d : List UInt8} {c : UInt8} (h : c ∈ grp x d) : c ∈ d ∨ c ∈ x.Group := by
  unfold grp at h
  split at h
  · exact .inl h
  · rcases gt_mem _ _ _ h with h | h | h
    · exact .inl (List.mem_of_mem_take h)
    · exact .inr h
    · rcases List.mem_append.1 h with h | h
      · exact .inr h
      · exact .inl (List.mem_of_mem_drop h)
theorem grp_back {x : Symbols} {d : List UInt8} (hd : d.all dgt = true) (hs : Snd x) : (if x.Group = [] then grp x d else wos x.Group 0 (grp x d)) = d := by
  have hcl : ∀ t : List UInt8, (∀ c ∈ t, c ∈ d) → ∀ c ∈ t, c ∉ x.Group := fun t ht c hc hg => by
    have h1 := hs.ng c hg
    rw [List.all_eq_true.1 hd c (ht c hc)] at h1
    cases h1
  unfold grp
  by_cases hg : x.Group = []
  · rw [if_pos hg]
    split
    · rfl
    · rw [hg, gt_nil, List.nil_append, List.take_append_drop]
  · rw [if_neg hg]
    split
    · have := wos_clean hg d [] (hcl d fun c hc => hc)
      rw [List.append_nil, wos_nil, List.append_nil] at this
      exact this
    · rw [wos_gt hg _ _ _ (hcl _ fun c hc => List.mem_of_mem_take hc), wos_self hg]
      have := wos_clean hg (d.drop (d.length - x.Primary.toNat)) [] (hcl _ fun c hc => List.mem_of_mem_drop hc)
      rw [List.append_nil, wos_nil, List.append_nil] at this
      rw [this, List.take_append_drop]
theorem grp_head {x : Symbols} {d : List UInt8} (hd : d ≠ []) (hx : SymOk x) : ∃ c t, grp x d = c :: t ∧ c ∈ d := by
  have _ := hx
  have hhead : ∀ (sz : Nat) (g : List UInt8) f (r out : List UInt8), 1 ≤ sz → r ≠ [] → ∃ c t, gt sz g f r out = c :: t ∧ c ∈ r := by
    intro sz g f
    induction f with
    | zero =>
      intro r out _ hr
      cases r with
      | nil => exact absurd rfl hr
      | cons a t => exact ⟨a, t ++ out, rfl, by simp⟩
    | succ f ih =>
      intro r out hz hr
      unfold gt
      split
      · cases r with
        | nil => exact absurd rfl hr
        | cons a t => exact ⟨a, t ++ out, rfl, by simp⟩
      · rename_i h0
        obtain ⟨c, t, e, hc⟩ := ih (r.take (r.length - sz)) (g ++ r.drop (r.length - sz) ++ out) hz (fun e => by
          have := congrArg List.length e
          rw [List.length_take] at this
          simp only [List.length_nil] at this
          omega)
        exact ⟨c, t, e, List.mem_of_mem_take hc⟩
  unfold grp
  split
  · cases d with
    | nil => exact absurd rfl hd
    | cons a t => exact ⟨a, t, rfl, by simp⟩
  · rename_i h0
    have hp := gsz_pos (x := x) (by omega)
    obtain ⟨c, t, e, hc⟩ := hhead (gsz x).toNat x.Group d.length (d.take (d.length - x.Primary.toNat)) (x.Group ++ d.drop (d.length - x.Primary.toNat)) (by omega) (fun e => by
      have := congrArg List.length e
      rw [List.length_take] at this
      simp only [List.length_nil] at this
      omega)
    exact ⟨c, t, e, List.mem_of_mem_take hc⟩
theorem fnd_skip {sub : List UInt8} (hs : sub ≠ []) : ∀ (a b : List UInt8), (∀ c ∈ a, c ∉ sub) → fnd sub (a ++ b) = a.length + fnd sub b
  | [], b, _ => by simp
  | c :: a, b, h => by
    rw [List.cons_append, fnd_cons, isPrefix_head hs (h c (by simp)), fnd_skip hs a b fun c hc => h c (by simp [hc])]
    simp only [Bool.false_eq_true, if_false, List.length_cons]
    omega
theorem fnd_here {sub : List UInt8} (hs : sub ≠ []) (b : List UInt8) : fnd sub (sub ++ b) = 0 := by
  cases h : sub ++ b with
  | nil => rfl
  | cons c l =>
    have hp : sub.isPrefixOf (c :: l) = true := by rw [← h]; exact List.isPrefixOf_iff_prefix.2 ⟨b, rfl⟩
    have _ := hs
    rw [fnd_cons, if_pos hp]
theorem num_parts {n : List UInt8} : n = (if neg n then [45] else []) ++ wh n ++ (if pt n then 46 :: fr n else []) := by
  have hb : bod n = wh n ++ (if pt n then 46 :: fr n else []) := by
    have hle := scan_le (fun l => ([46] : List UInt8).isPrefixOf l) (bod n)
    unfold wh
    cases hp : pt n with
    | false =>
      have h1 := hp
      unfold pt at h1
      have h2 := of_decide_eq_false h1
      unfold fnd at h2 ⊢
      rw [List.take_of_length_le (by omega)]
      simp
    | true =>
      have h1 := hp
      unfold pt at h1
      have h2 := of_decide_eq_true h1
      have key : ∀ l : List UInt8, fnd [46] l < l.length → l = l.take (fnd [46] l) ++ 46 :: l.drop (fnd [46] l + 1) := by
        intro l
        induction l with
        | nil => intro h; exact absurd h (Nat.not_lt_zero _)
        | cons b l ih =>
          intro h
          rw [fnd_cons] at h ⊢
          split at h
          · rename_i h3
            rw [if_pos h3]
            have : b = 46 := by simp [List.isPrefixOf] at h3; exact h3.symm
            subst this; rfl
          · rename_i h3
            rw [if_neg h3]
            have := ih (by simp only [List.length_cons] at h; omega)
            rw [List.take_succ_cons, List.drop_succ_cons, List.cons_append, ← this]
      unfold fr
      rw [if_pos hp, if_pos rfl]
      exact key _ h2
  rw [List.append_assoc, ← hb]
  unfold bod
  cases hn : neg n with
  | false => rfl
  | true =>
    unfold neg at hn
    cases n with
    | nil => cases hn
    | cons c t =>
      have : c = 45 := by simp [List.isPrefixOf] at hn; exact hn.symm
      subst this; rfl
theorem num_txt {x : Symbols} (hx : Few x) (hs : Snd x) {n : List UInt8} (hv : vld n = true) : num x (txt x n) = n := by
  obtain ⟨p1, p2, p3, p4, p5⟩ := vld_parts hv
  obtain ⟨c, t, e1, hc⟩ := grp_head (x := x) (Wh_ne p1) hx.ok
  have hcd : dgt c = true := List.all_eq_true.1 p1.1 c hc
  have hsgn : sgn x (txt x n) = neg n := by
    unfold sgn txt
    rw [show (x.Minus == []) = false from by rw [beq_nil]; exact decide_eq_false hs.m]
    cases neg n with
    | true =>
      simp only [if_true, Bool.not_false, Bool.true_and]
      exact List.isPrefixOf_iff_prefix.2 ⟨_, rfl⟩
    | false =>
      simp only [Bool.false_eq_true, if_false, List.nil_append, Bool.not_false, Bool.true_and]
      rw [e1, List.cons_append]
      exact isPrefix_head hs.m fun h => by have := hs.nm c h; rw [hcd] at this; cases this
  have hrst : rst x (txt x n) = grp x (wh n) ++ (if pt n then x.Decimal ++ fr n else []) := by
    unfold rst
    rw [hsgn]
    unfold txt
    cases neg n with
    | true => simp
    | false => simp
  have hfree : ∀ c ∈ grp x (wh n), c ∉ x.Decimal := fun c hc hd => by
    rcases grp_mem hc with h | h
    · have := hs.nd c hd
      rw [List.all_eq_true.1 p1.1 c h] at this
      cases this
    · exact hs.dg c hd h
  have hfnd : fnd x.Decimal (rst x (txt x n)) = (grp x (wh n)).length := by
    rw [hrst, fnd_skip hs.d _ _ hfree]
    cases pt n with
    | true => simp only [if_true]; rw [fnd_here hs.d]; omega
    | false => rfl
  have hw : wpt x (rst x (txt x n)) = wh n := by
    unfold wpt
    rw [hfnd, hrst, List.take_left]
    exact grp_back p1.1 hs
  unfold num
  rw [hsgn, hw, hfnd, hrst]
  have hdl : 1 ≤ x.Decimal.length := by cases h : x.Decimal with | nil => exact absurd h hs.d | cons a t => simp
  conv => rhs; rw [num_parts (n := n)]
  congr 1
  cases hp : pt n with
  | true =>
    simp only [if_true]
    rw [if_pos (by simp only [List.length_append]; omega), ← List.drop_drop, List.drop_left, List.drop_left]
  | false =>
    simp only [Bool.false_eq_true, if_false, List.append_nil]
    rw [if_neg (by omega)]
theorem txt_len2 {x : Symbols} (hx : Few x) {n : List UInt8} (hv : vld n = true) : (txt x n).length ≤ 400 := by
  obtain ⟨p1, p2, p3, p4, p5⟩ := vld_parts hv
  have h3 := grp_len (x := x) (d := wh n) hx.g gsz_pos
  have hd := hx.d
  have hm := hx.m
  unfold txt
  simp only [List.length_append]
  have e1 : (if neg n = true then x.Minus else []).length ≤ 20 := by split; exact hm; simp
  have e2 : (if pt n = true then x.Decimal ++ fr n else []).length ≤ 26 := by split; rw [List.length_append]; omega; simp
  omega

theorem numberInverse_pure (x : Symbols) (n : List UInt8) (hx : SymOk x) (hn : n.length ≤ LIMS) : ∃ N, calquelaw15_NumberInverse N x n = some true := by
  refine ⟨n.length + 3000, ?_⟩
  have ha := awake_eq n.length
  have hN : 3000 ≤ n.length + 3000 := by omega
  have hNv : n.length + 1000 ≤ n.length + 3000 := by omega
  generalize n.length + 3000 = N at *
  unfold calquelaw15_NumberInverse
  rw [ha]
  simp only [Option.bind_some, Bool.not_true, cond_false]
  rcases few_eq (N := N) hx with ⟨hf, hx⟩ | hf
  case inr => rw [hf]; rfl
  rw [hf]
  simp only [Option.bind_some, Bool.not_true, cond_false]
  rw [ref_Valid_big hn hNv]
  cases hv : vld n with
  | false => rfl
  | true =>
    have hl := vld_len hv
    simp only [Option.bind_some, Bool.not_true, cond_false]
    rw [prog_Sound hx hN, Option.bind_some, ref_Sound hx hN, Option.bind_some]
    simp only [bne_self_eq_false, cond_false, Option.bind_some]
    cases hs : snd x with
    | false => rfl
    | true =>
      have hS := snd_Snd hs
      simp only [Bool.not_true, cond_false]
      rw [prog_Format rfl hx (by omega) hN, Option.bind_some, fmt_nil hv hS.d]
      simp only
      rw [prog_Parse rfl hx (txt_len2 hx hv) hN, Option.bind_some]
      unfold prs
      rw [if_neg hS.d, num_txt hx hS hv, if_pos ⟨hv, rfl⟩]
      simp
end Go.Proofs.YthecjdgffboedaaDoor
